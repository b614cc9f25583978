/- VECTORS: the document's sums. -/
import Derived.Test.YtdikfhjpnfffnacDoorVcK
set_option maxRecDepth 2000
set_option linter.unusedVariables false
set_option linter.unusedSimpArgs false
set_option linter.unusedVariables false
set_option linter.unusedSimpArgs false
namespace Go.Proofs.YtdikfhjpnfffnacDoor
open Go Go.Abs Go.Proofs
theorem refRight_ok (c m h : Int) : PF 13 (.cons (vP c m h) .nil) (.bool fun _ => vRight c m h) := by
  refine (⟨Tryd.func13, rfl, rfl, rfl, ⟨rfl, rfl⟩, ok _⟩ : FN 13 Tryd.f13).tree (mkO_ok Fm2_ok) false 40 rfl ?_
  conv => arg 5; cbv
  refine ⟨fun g => ⟨fun g2 => ⟨fun g3 => ⟨fun g4 => ⟨fun g5 => ⟨fun g6 => ⟨⟨by decide, trivial⟩, rfl, ?_⟩, fun g6 => ⟨rfl, ?_⟩⟩, fun g5 => ⟨rfl, ?_⟩⟩, fun g4 => ⟨rfl, ?_⟩⟩, fun g3 => ⟨rfl, ?_⟩⟩, fun g2 => ⟨rfl, ?_⟩⟩, fun g => ⟨rfl, ?_⟩⟩
  · (replace g := of_decide_eq_true g); (try dsimp only at g); (try simp only [cast_fold, Int.ofNat_eq_natCast] at g)
    (replace g2 := of_decide_eq_true g2); (try dsimp only at g2); (try simp only [cast_fold, Int.ofNat_eq_natCast] at g2)
    (replace g3 := of_decide_eq_true g3); (try dsimp only at g3); (try simp only [cast_fold, Int.ofNat_eq_natCast] at g3)
    (replace g4 := of_decide_eq_true g4); (try dsimp only at g4); (try simp only [cast_fold, Int.ofNat_eq_natCast] at g4)
    (replace g5 := of_decide_eq_true g5); (try dsimp only at g5); (try simp only [cast_fold, Int.ofNat_eq_natCast] at g5)
    (replace g6 := of_decide_eq_true g6); (try dsimp only at g6); (try simp only [cast_fold, Int.ofNat_eq_natCast] at g6)
    show (h.tmod 2097152 == 0) = vRight c m h
    rw [Int.tmod_eq_emod_of_nonneg g5, Bool.eq_iff_iff, vRight_iff, beq_iff_eq]
    exact ⟨fun k => ⟨⟨g, g2⟩, ⟨g3, g4⟩, ⟨g5, g6⟩, k⟩, fun k => k.2.2.2⟩
  · (replace g6 := of_decide_eq_false g6); (try dsimp only at g6); (try simp only [cast_fold, Int.ofNat_eq_natCast] at g6)
    exact vRight_no fun k => g6 k.2.2.1.2
  · (replace g5 := of_decide_eq_false g5); (try dsimp only at g5); (try simp only [cast_fold, Int.ofNat_eq_natCast] at g5)
    exact vRight_no fun k => g5 k.2.2.1.1
  · (replace g4 := of_decide_eq_false g4); (try dsimp only at g4); (try simp only [cast_fold, Int.ofNat_eq_natCast] at g4)
    exact vRight_no fun k => g4 k.2.1.2
  · (replace g3 := of_decide_eq_false g3); (try dsimp only at g3); (try simp only [cast_fold, Int.ofNat_eq_natCast] at g3)
    exact vRight_no fun k => g3 k.2.1.1
  · (replace g2 := of_decide_eq_false g2); (try dsimp only at g2); (try simp only [cast_fold, Int.ofNat_eq_natCast] at g2)
    exact vRight_no fun k => g2 k.1.2
  · (replace g := of_decide_eq_false g); (try dsimp only at g); (try simp only [cast_fold, Int.ofNat_eq_natCast] at g)
    exact vRight_no fun k => g k.1.1
noncomputable def Fn : Table := addS 13 (.cons shV .nil) (fun c m h => (.bool fun _ => vRight (c ()) (m ()) (h ()), [])) Fm2
theorem Fn_ok : TableOK Tryd.prog G0 Fn := addS_ok (⟨Tryd.func13, rfl, rfl, rfl, ⟨rfl, rfl⟩, ok _⟩ : FN 13 Tryd.f13).callable (fun c m h _ => refRight_ok (c ()) (m ()) (h ())) Fm2_ok
theorem refAdd_ok (a b c d e f : Int) : PF 18 (.cons (vP a b c) (.cons (vP d e f) .nil)) (vAdd a b c d e f) := by
  refine (⟨Tryd.func18, rfl, rfl, rfl, ⟨rfl, rfl⟩, ok _⟩ : FN 18 Tryd.f18).tree (mkO_ok Fn_ok) false 40 rfl ?_
  conv => arg 5; cbv
  have nt : ∀ {b : Bool}, (!b) = true → b = false := fun h => by simpa using h
  have nf : ∀ {b : Bool}, (!b) = false → b = true := fun h => by simpa using h
  refine ⟨fun g => ⟨rfl, vAdd_no ?_⟩, fun g => ⟨fun g2 => ⟨rfl, vAdd_no ?_⟩, fun g2 => ?_⟩⟩
  · have g : vRight a b c = false := nt g
    unfold okAdd; rw [g]; rfl
  · have g2 : vRight d e f = false := nt g2
    unfold okAdd; rw [g2, Bool.and_false]; rfl
  have g : vRight a b c = true := nf g
  have g2 : vRight d e f = true := nf g2
  have r1 := vRight_iff.1 g
  have r2 := vRight_iff.1 g2
  have wa : IntKind.i64.wrap (a + d) = a + d := IntWalk.i64_in _ ⟨by omega, by omega⟩
  have wb : IntKind.i64.wrap (b + e) = b + e := IntWalk.i64_in _ ⟨by omega, by omega⟩
  have wc : IntKind.i64.wrap (c + f) = c + f := IntWalk.i64_in _ ⟨by omega, by omega⟩
  simp only [wa, wb, wc]
  refine ⟨fun g3 => ⟨rfl, vAdd_no ?_⟩, fun g3 => ⟨rfl, ?_⟩⟩
  · have g3 : vRight (a + d) (b + e) (c + f) = false := nt g3
    unfold okAdd; rw [g3, Bool.and_false]
  · have g3 : vRight (a + d) (b + e) (c + f) = true := nf g3
    have hok : okAdd a b c d e f = true := by unfold okAdd; rw [g, g2, g3]; rfl
    unfold vAdd
    rw [hok]
    exact ⟨⟨⟨rfl, rfl⟩, ⟨rfl, rfl⟩, ⟨rfl, rfl⟩, rfl⟩, rfl, rfl⟩
theorem refSub_ok (a b c d e f : Int) : PF 19 (.cons (vP a b c) (.cons (vP d e f) .nil)) (vSub a b c d e f) := by
  refine (⟨Tryd.func19, rfl, rfl, rfl, ⟨rfl, rfl⟩, ok _⟩ : FN 19 Tryd.f19).tree (mkO_ok Fn_ok) false 40 rfl ?_
  conv => arg 5; cbv
  have nt : ∀ {b : Bool}, (!b) = true → b = false := fun h => by simpa using h
  have nf : ∀ {b : Bool}, (!b) = false → b = true := fun h => by simpa using h
  refine ⟨fun g => ⟨rfl, vSub_no ?_⟩, fun g => ⟨fun g2 => ⟨rfl, vSub_no ?_⟩, fun g2 => ?_⟩⟩
  · have g : vRight a b c = false := nt g
    unfold okSub; rw [g]; rfl
  · have g2 : vRight d e f = false := nt g2
    unfold okSub; rw [g2, Bool.and_false]; rfl
  have g : vRight a b c = true := nf g
  have g2 : vRight d e f = true := nf g2
  have r1 := vRight_iff.1 g
  have r2 := vRight_iff.1 g2
  have wa : IntKind.i64.wrap (a - d) = a - d := IntWalk.i64_in _ ⟨by omega, by omega⟩
  have wb : IntKind.i64.wrap (b - e) = b - e := IntWalk.i64_in _ ⟨by omega, by omega⟩
  have wc : IntKind.i64.wrap (c - f) = c - f := IntWalk.i64_in _ ⟨by omega, by omega⟩
  simp only [wa, wb, wc]
  refine ⟨fun g3 => ⟨rfl, vSub_no ?_⟩, fun g3 => ⟨rfl, ?_⟩⟩
  · have g3 : vRight (a - d) (b - e) (c - f) = false := nt g3
    unfold okSub; rw [g3, Bool.and_false]
  · have g3 : vRight (a - d) (b - e) (c - f) = true := nf g3
    have hok : okSub a b c d e f = true := by unfold okSub; rw [g, g2, g3]; rfl
    unfold vSub
    rw [hok]
    exact ⟨⟨⟨rfl, rfl⟩, ⟨rfl, rfl⟩, ⟨rfl, rfl⟩, rfl⟩, rfl, rfl⟩
noncomputable def Fn1 : Table := addS 18 (.cons shV (.cons shV .nil)) (fun a b c d e f => (.tuple (.cons (.agg (.cons (.int .i64 fun _ => if okAdd (a ()) (b ()) (c ()) (d ()) (e ()) (f ()) = true then a () + d () else 0) (.cons (.int .i64 fun _ => if okAdd (a ()) (b ()) (c ()) (d ()) (e ()) (f ()) = true then b () + e () else 0) (.cons (.int .i64 fun _ => if okAdd (a ()) (b ()) (c ()) (d ()) (e ()) (f ()) = true then c () + f () else 0) .nil)))) (.cons (.bool fun _ => okAdd (a ()) (b ()) (c ()) (d ()) (e ()) (f ())) .nil)), []))
  (addS 19 (.cons shV (.cons shV .nil)) (fun a b c d e f => (.tuple (.cons (.agg (.cons (.int .i64 fun _ => if okSub (a ()) (b ()) (c ()) (d ()) (e ()) (f ()) = true then a () - d () else 0) (.cons (.int .i64 fun _ => if okSub (a ()) (b ()) (c ()) (d ()) (e ()) (f ()) = true then b () - e () else 0) (.cons (.int .i64 fun _ => if okSub (a ()) (b ()) (c ()) (d ()) (e ()) (f ()) = true then c () - f () else 0) .nil)))) (.cons (.bool fun _ => okSub (a ()) (b ()) (c ()) (d ()) (e ()) (f ())) .nil)), [])) Fn)
theorem Fn1_ok : TableOK Tryd.prog G0 Fn1 := addS_ok (⟨Tryd.func18, rfl, rfl, rfl, ⟨rfl, rfl⟩, ok _⟩ : FN 18 Tryd.f18).callable (fun a b c d e f _ => refAdd_ok (a ()) (b ()) (c ()) (d ()) (e ()) (f ())) (addS_ok (⟨Tryd.func19, rfl, rfl, rfl, ⟨rfl, rfl⟩, ok _⟩ : FN 19 Tryd.f19).callable (fun a b c d e f _ => refSub_ok (a ()) (b ()) (c ()) (d ()) (e ()) (f ())) Fn_ok)
def smF (ok : Bool) (l : List shV.val) (x : V3) : Option V3 := bif ok then sumL l x else none
theorem smF_on {v : shV.val} {l : List shV.val} {x : V3} : smF true (v :: l) x = smF (okAdd x.1 x.2.1 x.2.2 (e1 v) (e2 v) (e3 v)) l (if okAdd x.1 x.2.1 x.2.2 (e1 v) (e2 v) (e3 v) = true then x.1 + e1 v else 0, if okAdd x.1 x.2.1 x.2.2 (e1 v) (e2 v) (e3 v) = true then x.2.1 + e2 v else 0, if okAdd x.1 x.2.1 x.2.2 (e1 v) (e2 v) (e3 v) = true then x.2.2 + e3 v else 0) := by
  show (if okAdd x.1 x.2.1 x.2.2 (e1 v) (e2 v) (e3 v) = true then sumL l (x.1 + e1 v, x.2.1 + e2 v, x.2.2 + e3 v) else none) = _
  cases okAdd x.1 x.2.1 x.2.2 (e1 v) (e2 v) (e3 v) <;> rfl
structure SmI (l : List shV.val) (q : Option V3) (x : Nat × V3 × Bool) : Prop where
  hi : x.1 ≤ l.length
  e : smF x.2.2 (l.drop x.1) x.2.1 = q
  z : x.2.2 = false → x.2.1 = (0, 0, 0)
def rsA (l : List shV.val) (i : Nat) (ok : Bool) : Env := [(11, .int .i64 fun _ => (i : Int)), (10, .int .i64 fun _ => (l.length : Int)), (9, .slice none 3 (fun _ => (l.length : Int)) fun j => shV.mk fun _ => l.getD (j ()).toNat shV.dflt), (5, .bool fun _ => ok), (4, .ptr 1 0), (2, .ptr 0 0)]
theorem refSum_ok (l : List shV.val) (hl : l.length < 9223372036854775807) : PF 21 (.cons (Sh.mkL 3 shV fun _ => l) .nil) (sumP (sumL l (0, 0, 0))) := by
  refine (⟨Tryd.func21, rfl, rfl, rfl, ⟨rfl, rfl⟩, ok _⟩ : FN 21 Tryd.f21).tree (mkO_ok Fn1_ok) false 40 rfl ?_
  conv => arg 5; cbv
  generalize hq : sumL l (0, 0, 0) = q
  refine run_inv (ι := Nat × V3 × Bool) (fun x => l.length - x.1) (SmI l q) (fun x => rsA l x.1 x.2.2) (fun x => smS x.2.1) 2 (0, (0, 0, 0), true) (fun i => i) (by rfl) (by rfl) ⟨Nat.zero_le _, hq, fun h => by cases h⟩ ?_ ⟨impP_refl _, impP_refl _, impP_refl _, rfl, impP_refl _, impP_refl _, trivial⟩ ⟨impP_refl _, impP_refl _, trivial⟩
  intro y hy ih
  obtain ⟨i, x, o⟩ := y
  have hi : i ≤ l.length := hy.hi
  have he : smF o (l.drop i) x = q := hy.e
  have hz : o = false → x = (0, 0, 0) := hy.z
  have tn : ∀ n : Nat, ((n : Nat) : Int).toNat = n := fun n => Int.toNat_natCast n
  refine explore_ok (ok _) (mkO_ok Fn1_ok) (u := false) 20 _ rfl ?_
  conv => arg 5; cbv
  simp only [tn]
  refine ⟨fun g => ?_, fun g => ⟨rfl, ?_⟩⟩
  · have g : (i : Int) < (l.length : Int) := of_decide_eq_true g
    have hlt : i < l.length := by omega
    have hw : IntKind.i64.wrap ((i : Int) + 1) = ((i + 1 : Nat) : Int) := by rw [IntWalk.i64_in _ ⟨by omega, by omega⟩]; omega
    rw [List.drop_eq_getElem_cons hlt] at he
    have hg : l.getD i shV.dflt = l[i] := by rw [List.getD_eq_getElem?_getD, List.getElem?_eq_getElem hlt]; rfl
    rw [hg]
    refine ⟨⟨⟨(by (try dsimp only); (try simp only [cast_fold, Int.ofNat_eq_natCast]); omega), g⟩, trivial⟩, fun g2 => ?_, fun g2 => ?_⟩
    · have g2 : o = true := g2
      subst g2
      rw [smF_on] at he
      refine ih (i + 1, (if okAdd x.1 x.2.1 x.2.2 (e1 l[i]) (e2 l[i]) (e3 l[i]) = true then x.1 + e1 l[i] else 0, if okAdd x.1 x.2.1 x.2.2 (e1 l[i]) (e2 l[i]) (e3 l[i]) = true then x.2.1 + e2 l[i] else 0, if okAdd x.1 x.2.1 x.2.2 (e1 l[i]) (e2 l[i]) (e3 l[i]) = true then x.2.2 + e3 l[i] else 0), okAdd x.1 x.2.1 x.2.2 (e1 l[i]) (e2 l[i]) (e3 l[i])) (fun i => i) ⟨by show i + 1 ≤ l.length; omega, he, fun h => ?_⟩ (by show l.length - (i + 1) < l.length - i; omega) (by rfl) ⟨⟨rfl, hw⟩, impP_refl _, impP_refl _, impP_refl _, impP_refl _, impP_refl _, trivial⟩ ⟨impP_refl _, impP_refl _, trivial⟩
      have h : okAdd x.1 x.2.1 x.2.2 (e1 l[i]) (e2 l[i]) (e3 l[i]) = false := h
      show (_, _, _) = _
      rw [h]; rfl
    · have g2 : o = false := g2
      subst g2
      exact ih (i + 1, x, false) (fun i => i) ⟨by show i + 1 ≤ l.length; omega, he, hz⟩ (by show l.length - (i + 1) < l.length - i; omega) (by rfl) ⟨⟨rfl, hw⟩, impP_refl _, impP_refl _, impP_refl _, impP_refl _, impP_refl _, trivial⟩ ⟨impP_refl _, impP_refl _, trivial⟩
  · have g : ¬ (i : Int) < (l.length : Int) := of_decide_eq_false g
    have e : i = l.length := by omega
    rw [e, List.drop_length] at he
    rw [← he]
    cases o with
    | true => exact ⟨⟨⟨rfl, rfl⟩, ⟨rfl, rfl⟩, ⟨rfl, rfl⟩, rfl⟩, rfl, rfl⟩
    | false =>
      rw [hz rfl]
      exact ⟨⟨⟨rfl, rfl⟩, ⟨rfl, rfl⟩, ⟨rfl, rfl⟩, rfl⟩, rfl, rfl⟩
noncomputable def Fn2 : Table := addS 21 (.cons (.slice 3 shV) .nil) (fun l => (.tuple (.cons (.agg (.cons (.int .i64 fun _ => ((sumL (l ()) (0, 0, 0)).getD (0, 0, 0)).1) (.cons (.int .i64 fun _ => ((sumL (l ()) (0, 0, 0)).getD (0, 0, 0)).2.1) (.cons (.int .i64 fun _ => ((sumL (l ()) (0, 0, 0)).getD (0, 0, 0)).2.2) .nil)))) (.cons (.bool fun _ => (sumL (l ()) (0, 0, 0)).isSome) .nil)), [fun _ => List.length (α := shV.val) (l ()) < 9223372036854775807])) Fn1
theorem Fn2_ok : TableOK Tryd.prog G0 Fn2 := addS_ok (⟨Tryd.func21, rfl, rfl, rfl, ⟨rfl, rfl⟩, ok _⟩ : FN 21 Tryd.f21).callable (fun l h => refSum_ok (l ()) h.1) Fn1_ok
end Go.Proofs.YtdikfhjpnfffnacDoor
