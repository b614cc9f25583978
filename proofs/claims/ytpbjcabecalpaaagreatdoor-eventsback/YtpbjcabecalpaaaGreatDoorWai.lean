/- A part of what the walks of this claim stand on. -/
import Derived.Test.YtpbjcabecalpaaaGreatDoorWah
import Derived.Test.YtpbjcabecalpaaaGreatDoorWae
import Derived.Test.YtpbjcabecalpaaaGreatDoorGac
set_option maxRecDepth 2000
set_option linter.unusedVariables false
set_option linter.unusedSimpArgs false
namespace Go.Proofs.YtpbjcabecalpaaaGreatDoor
open Go Go.Abs Go.Proofs
theorem refRight_ok (c m h : Int) : PF 23 (.cons (vP c m h) .nil) (.bool fun _ => vRight c m h) := by
  refine (⟨Tryz.func23, rfl, rfl, rfl, ⟨rfl, rfl⟩, ok _⟩ : FN 23 Tryz.f23).tree (mkO_ok Fm2_ok) false 40 rfl ?_
  conv => arg 5; cbv
  refine ⟨fun g => ⟨fun g2 => ⟨fun g3 => ⟨fun g4 => ⟨fun g5 => ⟨fun g6 => ⟨⟨by decide, trivial⟩, rfl, ?_⟩, fun g6 => ⟨rfl, ?_⟩⟩, fun g5 => ⟨rfl, ?_⟩⟩, fun g4 => ⟨rfl, ?_⟩⟩, fun g3 => ⟨rfl, ?_⟩⟩, fun g2 => ⟨rfl, ?_⟩⟩, fun g => ⟨rfl, ?_⟩⟩
  · (replace g := of_decide_eq_true g); (try dsimp only at g); (try simp only [cast_fold, Int.ofNat_eq_natCast] at g)
    (replace g2 := of_decide_eq_true g2); (try dsimp only at g2); (try simp only [cast_fold, Int.ofNat_eq_natCast] at g2)
    (replace g3 := of_decide_eq_true g3); (try dsimp only at g3); (try simp only [cast_fold, Int.ofNat_eq_natCast] at g3)
    (replace g4 := of_decide_eq_true g4); (try dsimp only at g4); (try simp only [cast_fold, Int.ofNat_eq_natCast] at g4)
    (replace g5 := of_decide_eq_true g5); (try dsimp only at g5); (try simp only [cast_fold, Int.ofNat_eq_natCast] at g5)
    (replace g6 := of_decide_eq_true g6); (try dsimp only at g6); (try simp only [cast_fold, Int.ofNat_eq_natCast] at g6)
    show (h.tmod 2097152 == 0) = vRight c m h
    rw [Int.tmod_eq_emod_of_nonneg g5, Bool.eq_iff_iff, vRight_iff, beq_iff_eq]
    exact ⟨fun k => ⟨⟨g, g2⟩, ⟨g3, g4⟩, ⟨g5, g6⟩, k⟩, fun k => k.2.2.2⟩
  · (replace g6 := of_decide_eq_false g6); (try dsimp only at g6); (try simp only [cast_fold, Int.ofNat_eq_natCast] at g6)
    exact vRight_no fun k => g6 k.2.2.1.2
  · (replace g5 := of_decide_eq_false g5); (try dsimp only at g5); (try simp only [cast_fold, Int.ofNat_eq_natCast] at g5)
    exact vRight_no fun k => g5 k.2.2.1.1
  · (replace g4 := of_decide_eq_false g4); (try dsimp only at g4); (try simp only [cast_fold, Int.ofNat_eq_natCast] at g4)
    exact vRight_no fun k => g4 k.2.1.2
  · (replace g3 := of_decide_eq_false g3); (try dsimp only at g3); (try simp only [cast_fold, Int.ofNat_eq_natCast] at g3)
    exact vRight_no fun k => g3 k.2.1.1
  · (replace g2 := of_decide_eq_false g2); (try dsimp only at g2); (try simp only [cast_fold, Int.ofNat_eq_natCast] at g2)
    exact vRight_no fun k => g2 k.1.2
  · (replace g := of_decide_eq_false g); (try dsimp only at g); (try simp only [cast_fold, Int.ofNat_eq_natCast] at g)
    exact vRight_no fun k => g k.1.1
noncomputable def Fn : Table := addS 23 (.cons shV .nil) (fun c m h => (.bool fun _ => vRight (c ()) (m ()) (h ()), [])) Fm2
theorem Fn_ok : TableOK Tryz.prog G0 Fn := addS_ok (⟨Tryz.func23, rfl, rfl, rfl, ⟨rfl, rfl⟩, ok _⟩ : FN 23 Tryz.f23).callable (fun c m h _ => refRight_ok (c ()) (m ()) (h ())) Fm2_ok
theorem refAdd_ok (a b c d e f : Int) : PF 95 (.cons (vP a b c) (.cons (vP d e f) .nil)) (vAdd a b c d e f) := by
  refine (⟨Tryz.func95, rfl, rfl, rfl, ⟨rfl, rfl⟩, ok _⟩ : FN 95 Tryz.f95).tree (mkO_ok Fn_ok) false 40 rfl ?_
  conv => arg 5; cbv
  have nt : ∀ {b : Bool}, (!b) = true → b = false := fun h => by simpa using h
  have nf : ∀ {b : Bool}, (!b) = false → b = true := fun h => by simpa using h
  refine ⟨fun g => ⟨rfl, vAdd_no ?_⟩, fun g => ⟨fun g2 => ⟨rfl, vAdd_no ?_⟩, fun g2 => ?_⟩⟩
  · have g : vRight a b c = false := nt g
    unfold okAdd; rw [g]; rfl
  · have g2 : vRight d e f = false := nt g2
    unfold okAdd; rw [g2, Bool.and_false]; rfl
  have g : vRight a b c = true := nf g
  have g2 : vRight d e f = true := nf g2
  have r1 := vRight_iff.1 g
  have r2 := vRight_iff.1 g2
  have wa : IntKind.i64.wrap (a + d) = a + d := IntWalk.i64_in _ ⟨by omega, by omega⟩
  have wb : IntKind.i64.wrap (b + e) = b + e := IntWalk.i64_in _ ⟨by omega, by omega⟩
  have wc : IntKind.i64.wrap (c + f) = c + f := IntWalk.i64_in _ ⟨by omega, by omega⟩
  simp only [wa, wb, wc]
  refine ⟨fun g3 => ⟨rfl, vAdd_no ?_⟩, fun g3 => ⟨rfl, ?_⟩⟩
  · have g3 : vRight (a + d) (b + e) (c + f) = false := nt g3
    unfold okAdd; rw [g3, Bool.and_false]
  · have g3 : vRight (a + d) (b + e) (c + f) = true := nf g3
    have hok : okAdd a b c d e f = true := by unfold okAdd; rw [g, g2, g3]; rfl
    unfold vAdd
    rw [hok]
    exact ⟨⟨⟨rfl, rfl⟩, ⟨rfl, rfl⟩, ⟨rfl, rfl⟩, rfl⟩, rfl, rfl⟩
noncomputable def Fn1 : Table := addS 95 (.cons shV (.cons shV .nil)) (fun a b c d e f => (.tuple (.cons (.agg (.cons (.int .i64 fun _ => if okAdd (a ()) (b ()) (c ()) (d ()) (e ()) (f ()) = true then a () + d () else 0) (.cons (.int .i64 fun _ => if okAdd (a ()) (b ()) (c ()) (d ()) (e ()) (f ()) = true then b () + e () else 0) (.cons (.int .i64 fun _ => if okAdd (a ()) (b ()) (c ()) (d ()) (e ()) (f ()) = true then c () + f () else 0) .nil)))) (.cons (.bool fun _ => okAdd (a ()) (b ()) (c ()) (d ()) (e ()) (f ())) .nil)), []))
  Fn
theorem Fn1_ok : TableOK Tryz.prog G0 Fn1 := addS_ok (⟨Tryz.func95, rfl, rfl, rfl, ⟨rfl, rfl⟩, ok _⟩ : FN 95 Tryz.f95).callable (fun a b c d e f _ => refAdd_ok (a ()) (b ()) (c ()) (d ()) (e ()) (f ())) Fn_ok
def smF (ok : Bool) (l : List shV.val) (x : V3) : Option V3 := bif ok then sumL l x else none
theorem smF_on {v : shV.val} {l : List shV.val} {x : V3} : smF true (v :: l) x = smF (okAdd x.1 x.2.1 x.2.2 (e1 v) (e2 v) (e3 v)) l (if okAdd x.1 x.2.1 x.2.2 (e1 v) (e2 v) (e3 v) = true then x.1 + e1 v else 0, if okAdd x.1 x.2.1 x.2.2 (e1 v) (e2 v) (e3 v) = true then x.2.1 + e2 v else 0, if okAdd x.1 x.2.1 x.2.2 (e1 v) (e2 v) (e3 v) = true then x.2.2 + e3 v else 0) := by
  show (if okAdd x.1 x.2.1 x.2.2 (e1 v) (e2 v) (e3 v) = true then sumL l (x.1 + e1 v, x.2.1 + e2 v, x.2.2 + e3 v) else none) = _
  cases okAdd x.1 x.2.1 x.2.2 (e1 v) (e2 v) (e3 v) <;> rfl
structure SmI (l : List shV.val) (q : Option V3) (x : Nat × V3 × Bool) : Prop where
  hi : x.1 ≤ l.length
  e : smF x.2.2 (l.drop x.1) x.2.1 = q
  z : x.2.2 = false → x.2.1 = (0, 0, 0)
def rsA (l : List shV.val) (i : Nat) (ok : Bool) : Env := [(11, .int .i64 fun _ => (i : Int)), (10, .int .i64 fun _ => (l.length : Int)), (9, .slice none 3 (fun _ => (l.length : Int)) fun j => shV.mk fun _ => l.getD (j ()).toNat shV.dflt), (5, .bool fun _ => ok), (4, .ptr 1 0), (2, .ptr 0 0)]
theorem refSum_ok (l : List shV.val) (hl : l.length < 9223372036854775807) : PF 72 (.cons (Sh.mkL 3 shV fun _ => l) .nil) (sumP (sumL l (0, 0, 0))) := by
  refine (⟨Tryz.func72, rfl, rfl, rfl, ⟨rfl, rfl⟩, ok _⟩ : FN 72 Tryz.f72).tree (mkO_ok Fn1_ok) false 40 rfl ?_
  conv => arg 5; cbv
  generalize hq : sumL l (0, 0, 0) = q
  refine run_inv (ι := Nat × V3 × Bool) (fun x => l.length - x.1) (SmI l q) (fun x => rsA l x.1 x.2.2) (fun x => smS x.2.1) 2 (0, (0, 0, 0), true) (fun i => i) (by rfl) (by rfl) ⟨Nat.zero_le _, hq, fun h => by cases h⟩ ?_ ⟨impP_refl _, impP_refl _, impP_refl _, rfl, impP_refl _, impP_refl _, trivial⟩ ⟨impP_refl _, impP_refl _, trivial⟩
  intro y hy ih
  obtain ⟨i, x, o⟩ := y
  have hi : i ≤ l.length := hy.hi
  have he : smF o (l.drop i) x = q := hy.e
  have hz : o = false → x = (0, 0, 0) := hy.z
  have tn : ∀ n : Nat, ((n : Nat) : Int).toNat = n := fun n => Int.toNat_natCast n
  refine explore_ok (ok _) (mkO_ok Fn1_ok) (u := false) 20 _ rfl ?_
  conv => arg 5; cbv
  simp only [tn]
  refine ⟨fun g => ?_, fun g => ⟨rfl, ?_⟩⟩
  · have g : (i : Int) < (l.length : Int) := of_decide_eq_true g
    have hlt : i < l.length := by omega
    have hw : IntKind.i64.wrap ((i : Int) + 1) = ((i + 1 : Nat) : Int) := by rw [IntWalk.i64_in _ ⟨by omega, by omega⟩]; omega
    rw [List.drop_eq_getElem_cons hlt] at he
    have hg : l.getD i shV.dflt = l[i] := by rw [List.getD_eq_getElem?_getD, List.getElem?_eq_getElem hlt]; rfl
    rw [hg]
    refine ⟨⟨⟨(by (try dsimp only); (try simp only [cast_fold, Int.ofNat_eq_natCast]); omega), g⟩, trivial⟩, fun g2 => ?_, fun g2 => ?_⟩
    · have g2 : o = true := g2
      subst g2
      rw [smF_on] at he
      refine ih (i + 1, (if okAdd x.1 x.2.1 x.2.2 (e1 l[i]) (e2 l[i]) (e3 l[i]) = true then x.1 + e1 l[i] else 0, if okAdd x.1 x.2.1 x.2.2 (e1 l[i]) (e2 l[i]) (e3 l[i]) = true then x.2.1 + e2 l[i] else 0, if okAdd x.1 x.2.1 x.2.2 (e1 l[i]) (e2 l[i]) (e3 l[i]) = true then x.2.2 + e3 l[i] else 0), okAdd x.1 x.2.1 x.2.2 (e1 l[i]) (e2 l[i]) (e3 l[i])) (fun i => i) ⟨by show i + 1 ≤ l.length; omega, he, fun h => ?_⟩ (by show l.length - (i + 1) < l.length - i; omega) (by rfl) ⟨⟨rfl, hw⟩, impP_refl _, impP_refl _, impP_refl _, impP_refl _, impP_refl _, trivial⟩ ⟨impP_refl _, impP_refl _, trivial⟩
      have h : okAdd x.1 x.2.1 x.2.2 (e1 l[i]) (e2 l[i]) (e3 l[i]) = false := h
      show (_, _, _) = _
      rw [h]; rfl
    · have g2 : o = false := g2
      subst g2
      exact ih (i + 1, x, false) (fun i => i) ⟨by show i + 1 ≤ l.length; omega, he, hz⟩ (by show l.length - (i + 1) < l.length - i; omega) (by rfl) ⟨⟨rfl, hw⟩, impP_refl _, impP_refl _, impP_refl _, impP_refl _, impP_refl _, trivial⟩ ⟨impP_refl _, impP_refl _, trivial⟩
  · have g : ¬ (i : Int) < (l.length : Int) := of_decide_eq_false g
    have e : i = l.length := by omega
    rw [e, List.drop_length] at he
    rw [← he]
    cases o with
    | true => exact ⟨⟨⟨rfl, rfl⟩, ⟨rfl, rfl⟩, ⟨rfl, rfl⟩, rfl⟩, rfl, rfl⟩
    | false =>
      rw [hz rfl]
      exact ⟨⟨⟨rfl, rfl⟩, ⟨rfl, rfl⟩, ⟨rfl, rfl⟩, rfl⟩, rfl, rfl⟩
noncomputable def Fn2 : Table := addS 72 (.cons (.slice 3 shV) .nil) (fun l => (.tuple (.cons (.agg (.cons (.int .i64 fun _ => ((sumL (l ()) (0, 0, 0)).getD (0, 0, 0)).1) (.cons (.int .i64 fun _ => ((sumL (l ()) (0, 0, 0)).getD (0, 0, 0)).2.1) (.cons (.int .i64 fun _ => ((sumL (l ()) (0, 0, 0)).getD (0, 0, 0)).2.2) .nil)))) (.cons (.bool fun _ => (sumL (l ()) (0, 0, 0)).isSome) .nil)), [fun _ => List.length (α := shV.val) (l ()) < 9223372036854775807])) Fn1
theorem Fn2_ok : TableOK Tryz.prog G0 Fn2 := addS_ok (⟨Tryz.func72, rfl, rfl, rfl, ⟨rfl, rfl⟩, ok _⟩ : FN 72 Tryz.f72).callable (fun l h => refSum_ok (l ()) h.1) Fn1_ok
end Go.Proofs.YtpbjcabecalpaaaGreatDoor
namespace Go.Proofs.YtpbjcabecalpaaaGreatDoor
open Go Go.Abs Go.Proofs
def mkM (F : Table) (H : STable) : OpX := orX (callS H) (orX (mapX tyT) (mkO F))
theorem mkM_ok {F : Table} {H : STable} (h : TableOK Tryz.prog G0 F) (hs : STableOK Tryz.prog G0 H) : OpXOK Tryz.prog G0 (mkM F H) := orX_ok (callS_ok hs) (orX_ok (mapX_ok tyOK) (mkO_ok h))
end Go.Proofs.YtpbjcabecalpaaaGreatDoor
namespace Go.Proofs.YtpbjcabecalpaaaGreatDoor
open Go Go.Abs Go.Proofs
def preX : OpX := buildOX tyT
theorem preX_ok : OpXOK Tryz.prog G0 preX := buildOX_ok tyOK
def mkX (F : Table) (H : STable) : OpX := orX (strX tyT) (mkM F H)
theorem mkX_ok {F : Table} {H : STable} (h : TableOK Tryz.prog G0 F) (hs : STableOK Tryz.prog G0 H) : OpXOK Tryz.prog G0 (mkX F H) := orX_ok (strX_ok tyOK) (mkM_ok h hs)
end Go.Proofs.YtpbjcabecalpaaaGreatDoor
namespace Go.Proofs.YtpbjcabecalpaaaGreatDoor
open Go Go.Abs Go.Proofs
def nmA (s : ByteArray) (i : Nat) : Env := [(28, .int .i64 fun _ => (i : Int)), (27, .int .i64 fun _ => (s.size : Int)), (0, .str fun _ => s)]
theorem name_no {s : ByteArray} (h : ¬ (1 ≤ s.size ∧ s.size ≤ 16 ∧ ∀ j : Nat, j < s.size → rd1 (byteAt s j) j s.size)) : nameB s = false := by
  cases hb : nameB s with
  | true => exact absurd (nameB_iff.1 hb) h
  | false => rfl
theorem name_ok (s : ByteArray) : PF 54 (.cons (.str fun _ => s) .nil) (.bool fun _ => nameB s) := by
  refine (⟨Tryz.func54, rfl, rfl, rfl, ⟨rfl, rfl⟩, ok _⟩ : FN 54 Tryz.f54).tree (mkO_ok F0_ok) false 40 rfl ?_
  conv => arg 5; cbv
  have hw : 1 ≤ s.size ∧ s.size ≤ 16 → IntKind.i64.wrap ((s.size : Int) - 1) = (s.size : Int) - 1 := fun h => IntWalk.i64_in _ ⟨by omega, by omega⟩
  have h45 : ∀ i : Int, rd1 45 i s.size → i ≠ 0 ∧ i ≠ s.size - 1 := fun i h => by unfold rd1 at h; omega
  refine ⟨fun h1 => ⟨rfl, name_no fun k => ?_⟩, fun h1 => ?_⟩
  · have h1 : (s.size : Int) < 1 := of_decide_eq_true h1
    omega
  have h1 : ¬ (s.size : Int) < 1 := of_decide_eq_false h1
  refine ⟨fun h2 => ⟨rfl, name_no fun k => ?_⟩, fun h2 => ?_⟩
  · have h2 : 16 < (s.size : Int) := of_decide_eq_true h2
    omega
  have h2 : ¬ 16 < (s.size : Int) := of_decide_eq_false h2
  have hw := hw ⟨by omega, by omega⟩
  simp only [hw]
  refine ⟨⟨⟨Int.le_refl 0, by show (0 : Int) < s.size; omega⟩, trivial⟩, fun h3 => ⟨rfl, name_no fun k => ?_⟩, fun h3 => ⟨⟨⟨by show (0 : Int) ≤ s.size - 1; omega, by show (s.size : Int) - 1 < s.size; omega⟩, trivial⟩, fun h4 => ⟨rfl, name_no fun k => ?_⟩, fun h4 => ?_⟩⟩
  · have h3 : byteAt s 0 = 45 := by simpa using h3
    have := k.2.2 0 (by omega)
    have e : byteAt s ((0 : Nat) : Int) = 45 := h3
    rw [e] at this
    exact (h45 _ this).1 rfl
  · have h4 : byteAt s ((s.size : Int) - 1) = 45 := by simpa using h4
    have := k.2.2 (s.size - 1) (by omega)
    have e2 : (((s.size - 1 : Nat)) : Int) = (s.size : Int) - 1 := by omega
    rw [e2, h4] at this
    exact (h45 _ this).2 rfl
  have h3 : byteAt s 0 ≠ 45 := by simpa using h3
  have h4 : byteAt s ((s.size : Int) - 1) ≠ 45 := by simpa using h4
  refine run_inv (ι := Nat) (fun i => s.size - i) (fun i => i ≤ s.size ∧ ∀ j : Nat, j < i → okC (byteAt s j) = true) (nmA s) (fun _ => []) 0 0 (fun i => i) (by rfl) (by rfl) ⟨by omega, fun j hj => by omega⟩ ?_ ⟨impP_refl _, impP_refl _, impP_refl _, trivial⟩ trivial
  intro i hi ih
  have hwi : i < s.size → IntKind.i64.wrap ((i : Int) + 1) = ((i + 1 : Nat) : Int) := fun h => by rw [IntWalk.i64_in _ ⟨by omega, by omega⟩]; omega
  have bad : i < s.size → ¬ okC (byteAt s i) = true → nameB s = false := fun hl h => name_no fun k => h (okC_iff.2 (by have := k.2.2 i hl; unfold rd1 at this; omega))
  have good : okC (byteAt s i) = true → ∀ j : Nat, j < i + 1 → okC (byteAt s j) = true := fun h j hj => by
    by_cases e : j < i
    · exact hi.2 j e
    · obtain rfl : j = i := by omega
      exact h
  refine explore_ok (ok _) (mkO_ok F0_ok) (u := false) 20 _ rfl ?_
  conv => arg 5; cbv
  refine ⟨fun h => ?_, fun h => ⟨rfl, nameB_iff.2 ⟨by omega, by omega, fun j hj => ?_⟩⟩⟩
  · have h : (i : Int) < (s.size : Int) := of_decide_eq_true h
    refine ⟨⟨⟨Int.natCast_nonneg i, h⟩, trivial⟩, ?_⟩
    repeat' (first | exact ih (i + 1) (fun i => i) ⟨by omega, good (okC_iff.2 (by omega))⟩ (by omega) (by rfl) ⟨⟨rfl, hwi (by omega)⟩, impP_refl _, impP_refl _, trivial⟩ trivial | exact ⟨rfl, bad (by omega) fun h => by have := okC_iff.1 h; omega⟩ | (refine ⟨fun h => ?_, fun h => ?_⟩ <;> simp only [decide_eq_true_eq, decide_eq_false_iff_not, Bool.not_eq_true', Bool.not_eq_false', beq_iff_eq, bne_iff_ne, ne_eq, beq_eq_false_iff_ne, bne_eq_false_iff_eq, cast_fold, Int.ofNat_eq_natCast] at h))
  · have h : ¬ (i : Int) < (s.size : Int) := of_decide_eq_false h
    have := okC_iff.1 (hi.2 j (by omega))
    unfold rd1
    rcases this with k | k | k
    · exact .inl k
    · exact .inr (.inl k)
    · refine .inr (.inr ⟨k, fun e => ?_, fun e => ?_⟩)
      · rw [e] at k; exact h3 k
      · rw [e] at k; exact h4 k
def rnA (s : ByteArray) (i : Nat) : Env := [(3, .int .i64 fun _ => (i : Int)), (0, .str fun _ => s)]
theorem rname_ok (s : ByteArray) (hs : s.size < 2147483648) : PF 22 (.cons (.str fun _ => s) .nil) (.bool fun _ => nameB s) := by
  refine (⟨Tryz.func22, rfl, rfl, rfl, ⟨rfl, rfl⟩, ok _⟩ : FN 22 Tryz.f22).tree (mkO_ok F0_ok) false 40 rfl ?_
  conv => arg 5; cbv
  have hw : IntKind.i64.wrap ((s.size : Int) - 1) = (s.size : Int) - 1 := IntWalk.i64_in _ ⟨by omega, by omega⟩
  refine run_inv (ι := Nat) (fun i => s.size - i) (fun i => i ≤ s.size ∧ ∀ j : Nat, j < i → rd1 (byteAt s j) j s.size) (rnA s) (fun _ => []) 0 0 (fun i => i) (by rfl) (by rfl) ⟨by omega, fun j hj => by omega⟩ ?_ ⟨impP_refl _, impP_refl _, trivial⟩ trivial
  intro i hi ih
  have hwi : i < s.size → IntKind.i64.wrap ((i : Int) + 1) = ((i + 1 : Nat) : Int) := fun h => by rw [IntWalk.i64_in _ ⟨by omega, by omega⟩]; omega
  have bad : i < s.size → ¬ rd1 (byteAt s i) i s.size → nameB s = false := fun hl h => name_no fun k => h (k.2.2 i hl)
  have good : rd1 (byteAt s i) i s.size → ∀ j : Nat, j < i + 1 → rd1 (byteAt s j) j s.size := fun h j hj => by
    by_cases e : j < i
    · exact hi.2 j e
    · obtain rfl : j = i := by omega
      exact h
  refine explore_ok (ok _) (mkO_ok F0_ok) (u := false) 20 _ rfl ?_
  conv => arg 5; cbv
  simp only [hw]
  refine ⟨fun h => ?_, fun h => ?_⟩
  · have h : (i : Int) < (s.size : Int) := of_decide_eq_true h
    refine ⟨⟨⟨Int.natCast_nonneg i, h⟩, trivial⟩, ?_⟩
    repeat' (first | exact ih (i + 1) (fun i => i) ⟨by omega, good (by unfold rd1; omega)⟩ (by omega) (by rfl) ⟨⟨rfl, hwi (by omega)⟩, impP_refl _, trivial⟩ trivial | exact ⟨rfl, bad (by omega) fun h => by unfold rd1 at h; omega⟩ | (refine ⟨fun h => ?_, fun h => ?_⟩ <;> simp only [decide_eq_true_eq, decide_eq_false_iff_not, Bool.not_eq_true', Bool.not_eq_false', beq_iff_eq, bne_iff_ne, ne_eq, beq_eq_false_iff_ne, bne_eq_false_iff_eq, cast_fold, Int.ofNat_eq_natCast] at h))
  · have h : ¬ (i : Int) < (s.size : Int) := of_decide_eq_false h
    have hall : ∀ j : Nat, j < s.size → rd1 (byteAt s j) j s.size := fun j hj => hi.2 j (by omega)
    refine ⟨fun h2 => ⟨rfl, ?_⟩, fun h2 => ⟨rfl, name_no fun k => ?_⟩⟩
    · have h2 : 0 < (s.size : Int) := of_decide_eq_true h2
      show decide ((s.size : Int) < 17) = nameB s
      rw [Bool.eq_iff_iff, nameB_iff, decide_eq_true_eq]
      exact ⟨fun h3 => ⟨by omega, by omega, hall⟩, fun h3 => by omega⟩
    · have h2 : ¬ 0 < (s.size : Int) := of_decide_eq_false h2
      omega
end Go.Proofs.YtpbjcabecalpaaaGreatDoor
namespace Go.Proofs.YtpbjcabecalpaaaGreatDoor
open Go Go.Abs Go.Proofs
noncomputable def Fs0 : Table := addS 54 (.cons .str .nil) (fun s => (.bool fun _ => nameB (s ()), [])) (addS 22 (.cons .str .nil) (fun s => (.bool fun _ => nameB (s ()), [fun _ => (s ()).size < 2147483648])) Fn2)
theorem Fs0_ok : TableOK Tryz.prog G0 Fs0 := addS_ok (⟨Tryz.func54, rfl, rfl, rfl, ⟨rfl, rfl⟩, ok _⟩ : FN 54 Tryz.f54).callable (fun s _ => name_ok (s ())) (addS_ok (⟨Tryz.func22, rfl, rfl, rfl, ⟨rfl, rfl⟩, ok _⟩ : FN 22 Tryz.f22).callable (fun s h => rname_ok (s ()) h.1) Fn2_ok)
def cP (c : CV) : PV := shC.mk fun _ => c
theorem container_ok (c : CV) : PF 77 (.cons (cP c) .nil) (.bool fun _ => contB c) := by
  obtain ⟨nm, ⟨a, b, g, _⟩, ⟨d, e, f, _⟩, rs, _⟩ := c
  refine (⟨Tryz.func77, rfl, rfl, rfl, ⟨rfl, rfl⟩, ok _⟩ : FN 77 Tryz.f77).treeB (mkM_ok Fs0_ok emptyS_ok) (callB_ok emptyB_ok) true 60 (.both .any (.both .any (.both .any (.both .any (.yes (.both (.both .any (.yes (.both (.both .any (.no .any)) (.no .any)))) (.yes (.both (.both .any (.no .any)) (.no .any))))))))) rfl ?_
  conv => arg 5; cbv
  have w1 : IntKind.i64.wrap (0 + 1) = 1 := by decide
  have w2 : IntKind.i64.wrap (1 + 1) = 2 := by decide
  have n10 : ((1 : Int) = 0) = False := eq_false (by decide)
  repeat' (first
    | exact ⟨rfl, contB_iff.2 ⟨by assumption, by assumption, by assumption, by omega, by omega, by omega⟩⟩
    | exact ⟨rfl, contB_no fun k => by obtain ⟨k1, k2, k3, k4, k5, k6⟩ := k; first | omega | (simp_all; done)⟩
    | refine ⟨⟨by decide, trivial⟩, ?_⟩
    | (refine ⟨fun h => ?_, fun h => ?_⟩ <;> simp only [decide_eq_true_eq, decide_eq_false_iff_not, Bool.not_eq_true', Bool.not_eq_false', beq_iff_eq, bne_iff_ne, ne_eq, beq_eq_false_iff_ne, bne_eq_false_iff_eq, Decidable.not_not, cast_fold, Int.ofNat_eq_natCast, w1, w2, n10, if_true, if_false] at h))
theorem rcontainer_ok (c : CV) (hs : (cName c).size < 2147483648) : PF 44 (.cons (cP c) .nil) (.bool fun _ => contB c) := by
  obtain ⟨nm, ⟨a, b, g, _⟩, ⟨d, e, f, _⟩, rs, _⟩ := c
  refine (⟨Tryz.func44, rfl, rfl, rfl, ⟨rfl, rfl⟩, ok _⟩ : FN 44 Tryz.f44).treeB (mkM_ok Fs0_ok emptyS_ok) (callB_ok emptyB_ok) true 60 (.any) rfl ?_
  conv => arg 5; cbv
  refine ⟨⟨(by show drawOK _ _ = true; decide +kernel), hs, trivial⟩, ?_⟩
  repeat' (first
    | exact ⟨rfl, (show (g == f) = _ by rw [Bool.eq_iff_iff, beq_iff_eq, contB_iff]; have hp := @vRight_pos d e f; exact ⟨fun k => ⟨by assumption, by assumption, by assumption, k, by omega, by omega⟩, fun k => k.2.2.2.1⟩)⟩
    | exact ⟨rfl, contB_no fun k => by obtain ⟨k1, k2, k3, k4, k5, k6⟩ := k; have hp := vRight_pos k3; first | omega | (simp_all; done)⟩
    | (refine ⟨fun h => ?_, fun h => ?_⟩ <;> simp only [decide_eq_true_eq, decide_eq_false_iff_not, Bool.not_eq_true', Bool.not_eq_false', beq_iff_eq, bne_iff_ne, ne_eq, beq_eq_false_iff_ne, bne_eq_false_iff_eq, Decidable.not_not, cast_fold, Int.ofNat_eq_natCast] at h))
end Go.Proofs.YtpbjcabecalpaaaGreatDoor
namespace Go.Abs
theorem SFun.args {P : Program} {G : Gs} {f : Nat} {a a' : PV} {S : Store} {n : Nat} {Q : PV → Store → Prop} (h : SFun P G f a' S n Q) (hi : ∀ (M : Mem) (ρ : Names) (vs : List Value), rel M a ρ .vals vs → rel M a' ρ .vals vs) : SFun P G f a S n Q :=
  ⟨h.1, fun M ρ w vs hG hI hn hr => h.2 M ρ w vs hG hI hn (hi M ρ vs hr)⟩
end Go.Abs
namespace Go.Proofs.YtpbjcabecalpaaaGreatDoor
open Go Go.Abs Go.Proofs
def strS (s : ByteArray) : Store := [(0, .var (.str fun _ => s))]
noncomputable def Fs1 : Table := addS 77 (.cons shC .nil) (fun s a b g d e f rs => (.bool fun _ => contB (s (), (a (), b (), g (), ()), (d (), e (), f (), ()), rs (), ()), [])) (addS 44 (.cons shC .nil) (fun s a b g d e f rs => (.bool fun _ => contB (s (), (a (), b (), g (), ()), (d (), e (), f (), ()), rs (), ()), [fun _ => (s ()).size < 2147483648])) Fs0)
theorem Fs1_ok : TableOK Tryz.prog G0 Fs1 := addS_ok (⟨Tryz.func77, rfl, rfl, rfl, ⟨rfl, rfl⟩, ok _⟩ : FN 77 Tryz.f77).callable (fun s a b g d e f rs _ _ => container_ok (s (), (a (), b (), g (), ()), (d (), e (), f (), ()), rs (), ())) (addS_ok (⟨Tryz.func44, rfl, rfl, rfl, ⟨rfl, rfl⟩, ok _⟩ : FN 44 Tryz.f44).callable (fun s a b g d e f rs _ h => rcontainer_ok (s (), (a (), b (), g (), ()), (d (), e (), f (), ()), rs (), ()) h.1) Fs0_ok)
noncomputable def Bs0 : BTable := (addI 101 (ctx Tryz.f101) (mkM Fs1 emptyS) (callB emptyB) false (body Tryz.f101) 60 emptyB)
theorem Bs0_ok : BTableOK Tryz.prog G0 Bs0 := (addI_ok (⟨Tryz.func101, rfl, rfl, rfl, ⟨rfl, rfl⟩, ok _⟩ : FN 101 Tryz.f101) (mkM_ok Fs1_ok emptyS_ok) (callB_ok emptyB_ok) emptyB_ok)
def ixA (l : List CV) (i : Nat) : Env := [(8, .int .i64 fun _ => (i : Int)), (7, .int .i64 fun _ => (l.length : Int)), (0, Sh.mkL 10 shC fun _ => l), (1, .func (.func 101) .nil (.cons (.ptr 0 0) .nil))]
theorem findC_at {l : List CV} {s : ByteArray} {i : Nat} (hi : i < l.length) (h : ∀ j, j < i → (l.getD j c0).1 ≠ s) (he : (l.getD i c0).1 = s) : findC l s = i := by
  unfold findC
  rw [idxC_some.2 ⟨hi, he, h⟩]
theorem findC_none {l : List CV} {s : ByteArray} (h : ∀ j, j < l.length → (l.getD j c0).1 ≠ s) : findC l s = -1 := by
  unfold findC
  rw [idxC_none.2 fun c hc => by
    obtain ⟨j, hj, rfl⟩ := List.getElem_of_mem hc
    have := h j hj
    rwa [List.getD_eq_getElem?_getD, List.getElem?_eq_getElem hj] at this]
theorem idx_ok (l : List CV) (s : ByteArray) (hl : l.length ≤ 9223372036854775807) : SFun Tryz.prog G0 100 (.cons (Sh.mkL 10 shC fun _ => l) (.cons (.func (.func 101) .nil (.cons (.ptr 0 0) .nil)) .nil)) (strS s) 1 (QR 1 (.int .i64 fun _ => findC l s) (strS s)) := by
  refine (⟨Tryz.func100, rfl, rfl, rfl, ⟨rfl, rfl⟩, ok _⟩ : FN 100 Tryz.f100).streeB (mkM_ok Fs1_ok emptyS_ok) (callB_ok Bs0_ok) false 60 (.any) rfl ?_
  conv => arg 5; cbv
  refine run_inv (ι := Nat) (fun i => l.length - i) (fun i => i ≤ l.length ∧ ∀ j, j < i → (l.getD j c0).1 ≠ s) (ixA l) (fun _ => strS s) 1 0 (fun i => i) (by rfl) (by rfl) ⟨by omega, fun j hj => by omega⟩ ?_ ⟨impP_refl _, impP_refl _, impP_refl _, impP_refl _, trivial⟩ ⟨impP_refl _, trivial⟩
  intro i hi ih
  refine exploreB_ok (by first | exact ok _ | exact (ok _).at _ | exact (ok _).round _) (mkM_ok Fs1_ok emptyS_ok) (callB_ok Bs0_ok) (u := false) 60 (.any) _ rfl ?_
  conv => arg 5; cbv
  refine ⟨fun h => ?_, fun h => ?_⟩
  · have h : (i : Int) < (l.length : Int) := of_decide_eq_true h
    have hi2 : i < l.length := by omega
    have hw : IntKind.i64.wrap ((i : Int) + 1) = ((i + 1 : Nat) : Int) := by rw [IntWalk.i64_in _ ⟨by omega, by omega⟩]; omega
    refine ⟨⟨⟨Int.natCast_nonneg i, h⟩, trivial⟩, fun h2 => ?_, fun h2 => ?_⟩
    · have h2 : (l.getD i c0).1 = s := of_decide_eq_true (p := (l.getD i c0).1 = s) h2
      exact ⟨fun i => i, rfl, rfl, ⟨impP_refl _, trivial⟩, ⟨rfl, (findC_at hi2 hi.2 h2).symm⟩⟩
    · have h2 : (l.getD i c0).1 ≠ s := of_decide_eq_false (p := (l.getD i c0).1 = s) h2
      refine ih (i + 1) (fun i => i) ⟨by omega, fun j hj => ?_⟩ (by omega) (by rfl) ⟨⟨rfl, hw⟩, impP_refl _, impP_refl _, impP_refl _, trivial⟩ ⟨impP_refl _, trivial⟩
      by_cases e : j < i
      · exact hi.2 j e
      · obtain rfl : j = i := by omega
        exact h2
  · have h : ¬ (i : Int) < (l.length : Int) := of_decide_eq_false h
    exact ⟨fun i => i, rfl, rfl, ⟨impP_refl _, trivial⟩, ⟨rfl, (findC_none fun j hj => hi.2 j (by omega)).symm⟩⟩
def idxE (args : PV) (g : Sto) : Option SRes := match args with
  | .cons (.slice none 10 len f) (.cons (.func (.func k) .nil (.cons (.ptr id 0) .nil)) .nil) => bif beqN k 101 then (match g id with
    | some (.var (.str s)) => some { ids := [id], args := .cons (.slice none 10 len f) (.cons (.func (.func 101) .nil (.cons (.ptr 0 0) .nil)) .nil), S := [(0, .var (.str s))], r := .int .i64 fun _ => findC (rdL shC.rd len f) (s ()), W := [(0, .var (.str s))], C := [fun _ => (len ()).toNat ≤ 9223372036854775807, fun _ => ∀ j, shC.fits (f j)] }
    | _ => none) else none
  | _ => none
theorem raw_list {M : Mem} {ρ : Names} {esz : Nat} {a : Sh} {len : Unit → Int} {f : (Unit → Int) → PV} {m : Abs.Mode} {vs : List Value} (hf : ∀ j, a.fits (f j)) (hr : rel M (.slice none esz len f) ρ m vs) : rel M (Sh.mkL esz a fun _ => rdL a.rd len f) ρ m vs :=
  (Sh.slice esz a).fits_mk (p := .slice none esz len f) ⟨rfl, hf⟩ hr
theorem idxE_ok {args : PV} {g : Sto} {x : SRes} (h : idxE args g = some x) : SGood Tryz.prog G0 100 args g x := by
  unfold idxE at h
  split at h
  · rename_i len f k id
    cases hb : beqN k 101 with
    | false => rw [hb] at h; cases h
    | true =>
      obtain rfl : k = 101 := by simpa using hb
      rw [hb, cond_true] at h
      split at h
      · rename_i s hs
        obtain rfl := Option.some.inj h
        refine ⟨fun hC => (idx_ok _ (s ()) (Nat.le_trans (Nat.le_of_eq (rdL_len shC.rd len f)) hC.1)).args fun M ρ vs hr => ?_, impP_refl _, ?_, trivial⟩
        · rcases hr with ⟨h', _⟩ | ⟨_, v, ws, rfl, h1, h2⟩
          · cases h'
          · exact .inr ⟨rfl, v, ws, rfl, raw_list hC.2.1 h1, h2⟩
        · show impO _ (g id) _
          rw [hs]; exact impP_refl (.str s)
      · cases h
  · cases h
noncomputable def Hs1 : STable := addM 100 idxE emptyS
theorem Hs1_ok : STableOK Tryz.prog G0 Hs1 := addM_ok (fun _ _ _ h => idxE_ok h) emptyS_ok
def podP (p : PoV) : PV := shP.mk fun _ => p
def fiP (l : List CV) (s : ByteArray) : PV := .tuple (.cons (.int .i64 fun _ => if findC l s < 0 then 0 else findC l s) (.cons (.bool fun _ => decide (0 ≤ findC l s)) .nil))
theorem find_ok (p : PoV) (s : ByteArray) (hl : p.2.2.2.1.length ≤ 9223372036854775807) : PF 76 (.cons (podP p) (.cons (.str fun _ => s) .nil)) (fiP p.2.2.2.1 s) := by
  refine (⟨Tryz.func76, rfl, rfl, rfl, ⟨rfl, rfl⟩, ok _⟩ : FN 76 Tryz.f76).treeB (mkM_ok Fs1_ok Hs1_ok) (callB_ok emptyB_ok) false 60 (.any) rfl ?_
  conv => arg 5; cbv
  have e : (rdL shC.rd (fun _ => (p.2.2.2.1.length : Int)) fun j => shC.mk fun _ => (p.2.2.2.1 : List shC.val).getD (j ()).toNat shC.dflt) = p.2.2.2.1 := rdL_mkL shC p.2.2.2.1
  refine ⟨⟨?_, fun j => fits_of_mk _ _, trivial⟩, rfl, ⟨rfl, ?_⟩, ?_, rfl⟩
  · show (((p.2.2.2.1.length : Nat) : Int)).toNat ≤ _
    rw [Int.toNat_natCast]; exact hl
  · exact congrArg (fun l => if findC l s < 0 then 0 else findC l s) e
  · exact congrArg (fun l => decide (0 ≤ findC l s)) e
end Go.Proofs.YtpbjcabecalpaaaGreatDoor
namespace Go.Proofs.YtpbjcabecalpaaaGreatDoor
open Go Go.Abs Go.Proofs
noncomputable def Fs2 : Table := addS 76 (.cons shP (.cons .str .nil)) (fun nm pr po l s => (.tuple (.cons (.int .i64 fun _ => if findC (l ()) (s ()) < 0 then 0 else findC (l ()) (s ())) (.cons (.bool fun _ => decide (0 ≤ findC (l ()) (s ()))) .nil)), [fun _ => List.length (α := CV) (l ()) ≤ 9223372036854775807])) Fs1
theorem Fs2_ok : TableOK Tryz.prog G0 Fs2 := addS_ok (⟨Tryz.func76, rfl, rfl, rfl, ⟨rfl, rfl⟩, ok _⟩ : FN 76 Tryz.f76).callable (fun nm pr po l s h => find_ok (nm (), pr (), po (), l (), ()) (s ()) h.1) Fs1_ok
def sumL2 (l : List VV) : Option V3 := sumL (l : List shV.val) (0, 0, 0)
def sumsB (l : List CV) : Bool := (sumL2 (l.map cReq)).isSome && (sumL2 (l.map cLim)).isSome
structure SuX where
  i : Nat
  ws : List VV
  vs : List VV
def suA (l : List CV) (x : SuX) : Env := [(16, .int .i64 fun _ => (x.i : Int)), (15, .int .i64 fun _ => (l.length : Int)), (14, Sh.mkL 10 shC fun _ => l), (5, .slice (some 3) 3 (fun _ => (x.ws.length : Int)) fun j => shVe.mk fun _ => (x.ws : List shVe.val).getD (j ()).toNat shVe.dflt), (6, .slice (some 4) 3 (fun _ => (x.vs.length : Int)) fun j => shVe.mk fun _ => (x.vs : List shVe.val).getD (j ()).toNat shVe.dflt), (3, .ptr 2 0), (2, .ptr 1 0)]
def suS : Store := [(1, .var zV), (2, .var zV), (3, .own 3 45), (4, .own 3 45)]
def ren34 : Nat → Nat := fun i => bif beqN i 3 then 6 else bif beqN i 4 then 7 else i
def suP (l : List CV) : PV := .tuple (.cons (vP ((sumL2 (l.map cReq)).getD (0, 0, 0)).1 ((sumL2 (l.map cReq)).getD (0, 0, 0)).2.1 ((sumL2 (l.map cReq)).getD (0, 0, 0)).2.2) (.cons (vP ((sumL2 (l.map cLim)).getD (0, 0, 0)).1 ((sumL2 (l.map cLim)).getD (0, 0, 0)).2.1 ((sumL2 (l.map cLim)).getD (0, 0, 0)).2.2) (.cons (.bool fun _ => sumsB l) .nil)))
theorem take_map {α : Type} (f : CV → α) {l : List CV} {i : Nat} (h : i < l.length) : (l.take (i + 1)).map f = (l.take i).map f ++ [f (l.getD i c0)] := by
  rw [List.take_add_one, List.getElem?_eq_getElem h, List.map_append, List.getD_eq_getElem?_getD, List.getElem?_eq_getElem h]
  rfl
theorem sums_ok (p : PoV) (hl : p.2.2.2.1.length ≤ 100000) : PF 78 (.cons (podP p) .nil) (suP p.2.2.2.1) := by
  obtain ⟨nm, pr, po, l, _⟩ := p
  have hl : l.length ≤ 100000 := hl
  refine (⟨Tryz.func78, rfl, rfl, rfl, ⟨rfl, rfl⟩, ok _⟩ : FN 78 Tryz.f78).treeB (mkM_ok Fs2_ok emptyS_ok) (callB_ok emptyB_ok) false 60 (.any) rfl ?_
  conv => arg 5; cbv
  refine run_own (A := _) 5 3 45 zV (by rfl) (by rfl) (by rfl) ?_
  refine run_own (A := _) 6 3 45 zV (by rfl) (by rfl) (by rfl) ?_
  refine run_inv (ι := SuX) (fun x => l.length - x.i) (fun x => x.i ≤ l.length ∧ x.ws = (l.take x.i).map cReq ∧ x.vs = (l.take x.i).map cLim) (suA l) (fun _ => suS) 5 ⟨0, [], []⟩ (fun i => i) (by rfl) (by rfl) ⟨Nat.zero_le _, rfl, rfl⟩ ?_ ⟨impP_refl _, impP_refl _, impP_refl _, ⟨.inr rfl, rfl, rfl, fun j h0 h1 => absurd h1 (by show ¬ j < 0; omega)⟩, ⟨.inr rfl, rfl, rfl, fun j h0 h1 => absurd h1 (by show ¬ j < 0; omega)⟩, impP_refl _, impP_refl _, trivial⟩ ⟨impP_refl _, impP_refl _, ⟨rfl, rfl⟩, ⟨rfl, rfl⟩, trivial⟩
  rintro ⟨i, ws, vs⟩ ⟨hi, hw, hv⟩ ih
  dsimp only at hi hw hv
  have hwl : ws.length ≤ i := by rw [hw, List.length_map, List.length_take]; omega
  have hvl : vs.length ≤ i := by rw [hv, List.length_map, List.length_take]; omega
  refine exploreB_ok (by first | exact ok _ | exact (ok _).at _ | exact (ok _).round _) (mkM_ok Fs2_ok emptyS_ok) (callB_ok emptyB_ok) (u := false) 60 (.any) _ rfl ?_
  conv => arg 5; cbv
  refine ⟨fun h => ?_, fun h => ?_⟩
  · have h : (i : Int) < (l.length : Int) := of_decide_eq_true h
    have hi2 : i < l.length := by omega
    have hw8 : IntKind.i64.wrap ((i : Int) + 1) = ((i + 1 : Nat) : Int) := by rw [IntWalk.i64_in _ ⟨by omega, by omega⟩]; omega
    refine ⟨⟨⟨Int.natCast_nonneg i, h⟩, ?_, ?_, (by show drawOK _ _ = true; decide +kernel), trivial⟩, ?_⟩
    · show (0 : Int) < 1 ∧ ((ws.length : Int) + 1) * 24 ≤ 140737488355328
      omega
    · show (0 : Int) < 1 ∧ ((vs.length : Int) + 1) * 24 ≤ 140737488355328
      omega
    refine ih ⟨i + 1, ws ++ [cReq (l.getD i c0)], vs ++ [cLim (l.getD i c0)]⟩ ren34 ⟨by dsimp only; omega, ?_, ?_⟩ (by dsimp only; omega) (by rfl) ⟨⟨rfl, hw8⟩, impP_refl _, impP_refl _, push_imp shVe (some 6) 3 ws (cReq (l.getD i c0)), push_imp shVe (some 7) 3 vs (cLim (l.getD i c0)), impP_refl _, impP_refl _, trivial⟩ ⟨impP_refl _, impP_refl _, ⟨rfl, rfl⟩, ⟨rfl, rfl⟩, trivial⟩
    · show ws ++ _ = (l.take (i + 1)).map cReq
      rw [take_map cReq hi2, hw]
    · show vs ++ _ = (l.take (i + 1)).map cLim
      rw [take_map cLim hi2, hv]
  · have h : ¬ (i : Int) < (l.length : Int) := of_decide_eq_false h
    have e : i = l.length := by omega
    rw [e, List.take_length] at hw hv
    have e1 : (rdL shV.rd (fun _ => (ws.length : Int)) fun j => shVe.mk fun _ => (ws : List shVe.val).getD (j ()).toNat shVe.dflt) = l.map cReq := (rdL_mkL shV ws).trans hw
    have e2 : (rdL shV.rd (fun _ => (vs.length : Int)) fun j => shVe.mk fun _ => (vs : List shVe.val).getD (j ()).toNat shVe.dflt) = l.map cLim := (rdL_mkL shV vs).trans hv
    have l1 : (rdL shV.rd (fun _ => (ws.length : Int)) fun j => shVe.mk fun _ => (ws : List shVe.val).getD (j ()).toNat shVe.dflt).length < 9223372036854775807 := by
      rw [rdL_len]; show ((ws.length : Nat) : Int).toNat < _; omega
    have l2 : (rdL shV.rd (fun _ => (vs.length : Int)) fun j => shVe.mk fun _ => (vs : List shVe.val).getD (j ()).toNat shVe.dflt).length < 9223372036854775807 := by
      rw [rdL_len]; show ((vs.length : Nat) : Int).toNat < _; omega
    refine ⟨⟨l1, fun j => fits_of_mk shV _, l2, fun j => fits_of_mk shV _, trivial⟩, fun h1 => ⟨⟨(by show drawOK _ _ = true; decide +kernel), trivial⟩, rfl, ?_⟩, fun h1 => ⟨⟨(by show drawOK _ _ = true; decide +kernel), trivial⟩, rfl, ?_⟩⟩
    all_goals
      refine ⟨⟨⟨rfl, congrArg (fun q : List shV.val => ((sumL q (0, 0, 0)).getD (0, 0, 0)).1) e1⟩, ⟨rfl, congrArg (fun q : List shV.val => ((sumL q (0, 0, 0)).getD (0, 0, 0)).2.1) e1⟩, ⟨rfl, congrArg (fun q : List shV.val => ((sumL q (0, 0, 0)).getD (0, 0, 0)).2.2) e1⟩, rfl⟩, ⟨⟨rfl, congrArg (fun q : List shV.val => ((sumL q (0, 0, 0)).getD (0, 0, 0)).1) e2⟩, ⟨rfl, congrArg (fun q : List shV.val => ((sumL q (0, 0, 0)).getD (0, 0, 0)).2.1) e2⟩, ⟨rfl, congrArg (fun q : List shV.val => ((sumL q (0, 0, 0)).getD (0, 0, 0)).2.2) e2⟩, rfl⟩, ?_, rfl⟩
    · have h1 : (sumL2 (l.map cReq)).isSome = true := (congrArg (fun q : List shV.val => (sumL q (0, 0, 0)).isSome) e1).symm.trans h1
      have h2 := congrArg (fun q : List shV.val => (sumL q (0, 0, 0)).isSome) e2
      refine h2.trans ?_
      show (sumL2 (l.map cLim)).isSome = sumsB l
      unfold sumsB
      rw [h1, Bool.true_and]
    · have h1 : (sumL2 (l.map cReq)).isSome = false := (congrArg (fun q : List shV.val => (sumL q (0, 0, 0)).isSome) e1).symm.trans h1
      show sumsB l = false
      unfold sumsB
      rw [h1]; rfl
noncomputable def Fs3 : Table := addS 78 (.cons shP .nil) (fun nm pr po l => (.tuple (.cons (.agg (.cons (.int .i64 fun _ => ((sumL2 (List.map (α := CV) cReq (l ()))).getD (0, 0, 0)).1) (.cons (.int .i64 fun _ => ((sumL2 (List.map (α := CV) cReq (l ()))).getD (0, 0, 0)).2.1) (.cons (.int .i64 fun _ => ((sumL2 (List.map (α := CV) cReq (l ()))).getD (0, 0, 0)).2.2) .nil)))) (.cons (.agg (.cons (.int .i64 fun _ => ((sumL2 (List.map (α := CV) cLim (l ()))).getD (0, 0, 0)).1) (.cons (.int .i64 fun _ => ((sumL2 (List.map (α := CV) cLim (l ()))).getD (0, 0, 0)).2.1) (.cons (.int .i64 fun _ => ((sumL2 (List.map (α := CV) cLim (l ()))).getD (0, 0, 0)).2.2) .nil)))) (.cons (.bool fun _ => sumsB (l ())) .nil))), [fun _ => List.length (α := CV) (l ()) ≤ 100000])) Fs2
theorem Fs3_ok : TableOK Tryz.prog G0 Fs3 := addS_ok (⟨Tryz.func78, rfl, rfl, rfl, ⟨rfl, rfl⟩, ok _⟩ : FN 78 Tryz.f78).callable (fun nm pr po l h => sums_ok (nm (), pr (), po (), l (), ()) h.1) Fs2_ok
end Go.Proofs.YtpbjcabecalpaaaGreatDoor
namespace Go.Proofs.YtpbjcabecalpaaaGreatDoor
open Go Go.Abs Go.Proofs
def consB (l : List CV) : Bool := (List.range l.length).all fun j => decide (findC l (l.getD j c0).1 = (j : Int)) && contB (l.getD j c0)
def podB (p : PoV) : Bool := nameB p.1 && (decide (-1000 ≤ p.2.1) && decide (p.2.1 ≤ 1000)) && (decide (0 ≤ p.2.2.1) && decide (p.2.2.1 ≤ 2)) && (decide (1 ≤ p.2.2.2.1.length) && decide (p.2.2.2.1.length ≤ 6)) && consB p.2.2.2.1 && sumsB p.2.2.2.1
def PodI (nm : ByteArray) (pr po : Int) (l : List CV) : Prop := nameB nm = true ∧ (-1000 ≤ pr ∧ pr ≤ 1000) ∧ (0 ≤ po ∧ po ≤ 2) ∧ (1 ≤ l.length ∧ l.length ≤ 6) ∧ (∀ j, j < l.length → findC l (l.getD j c0).1 = (j : Int) ∧ contB (l.getD j c0) = true) ∧ sumsB l = true
theorem podB_iff {nm : ByteArray} {pr po : Int} {l : List CV} {u : Unit} : podB (nm, pr, po, l, u) = true ↔ PodI nm pr po l := by
  unfold podB consB PodI
  simp only [Bool.and_eq_true, decide_eq_true_eq, List.all_eq_true, List.mem_range]
  constructor
  · rintro ⟨⟨⟨⟨⟨h1, h2⟩, h3⟩, h4⟩, h5⟩, h6⟩
    exact ⟨h1, h2, h3, h4, h5, h6⟩
  · rintro ⟨h1, h2, h3, h4, h5, h6⟩
    exact ⟨⟨⟨⟨⟨h1, h2⟩, h3⟩, h4⟩, h5⟩, h6⟩
theorem podB_no {nm : ByteArray} {pr po : Int} {l : List CV} {u : Unit} (h : ¬ PodI nm pr po l) : podB (nm, pr, po, l, u) = false := by
  cases hb : podB (nm, pr, po, l, u) with
  | true => exact absurd (podB_iff.1 hb) h
  | false => rfl
theorem findC_self {l : List CV} {i : Nat} (hi : i < l.length) : 0 ≤ findC l (l.getD i c0).1 := by
  unfold findC
  cases h : idxC (l.getD i c0).1 l 0 with
  | some j => exact Int.natCast_nonneg j
  | none =>
    refine absurd rfl (idxC_none.1 h (l.getD i c0) ?_)
    rw [List.getD_eq_getElem?_getD, List.getElem?_eq_getElem hi]
    exact List.getElem_mem hi
theorem rd_list (l : List CV) : (rdL shC.rd (fun _ => (l.length : Int)) fun j => shC.mk fun _ => (l : List shC.val).getD (j ()).toNat shC.dflt) = l := rdL_mkL shC l
def poA (p : PoV) (i : Nat) : Env := [(49, .int .i64 fun _ => (i : Int)), (48, .int .i64 fun _ => (p.2.2.2.1.length : Int)), (47, Sh.mkL 10 shC fun _ => p.2.2.2.1), (1, .ptr 0 0), (0, podP p)]
def poS (p : PoV) : Store := [(0, .var (podP p))]
set_option maxHeartbeats 1000000 in
theorem pod_ok (p : PoV) : PF 53 (.cons (podP p) .nil) (.bool fun _ => podB p) := by
  obtain ⟨nm, pr, po, l, u⟩ := p
  refine (⟨Tryz.func53, rfl, rfl, rfl, ⟨rfl, rfl⟩, ok _⟩ : FN 53 Tryz.f53).treeB (mkM_ok Fs3_ok emptyS_ok) (callB_ok emptyB_ok) false 60 (.any) rfl ?_
  conv => arg 5; cbv
  refine ⟨fun h1 => ⟨rfl, podB_no fun k => ?_⟩, fun h1 => ⟨fun h2 => ⟨rfl, podB_no fun k => ?_⟩, fun h2 => ⟨fun h3 => ⟨rfl, podB_no fun k => ?_⟩, fun h3 => ⟨fun h4 => ⟨rfl, podB_no fun k => ?_⟩, fun h4 => ⟨fun h5 => ⟨rfl, podB_no fun k => ?_⟩, fun h5 => ⟨fun h6 => ⟨rfl, podB_no fun k => ?_⟩, fun h6 => ⟨fun h7 => ⟨rfl, podB_no fun k => ?_⟩, fun h7 => ?_⟩⟩⟩⟩⟩⟩⟩
  · have h1 : (!nameB nm) = true := h1
    rw [k.1] at h1; cases h1
  · have h2 : pr < -1000 := of_decide_eq_true h2
    have := k.2.1; omega
  · have h3 : 1000 < pr := of_decide_eq_true h3
    have := k.2.1; omega
  · have h4 : po < 0 := of_decide_eq_true h4
    have := k.2.2.1; omega
  · have h5 : 2 < po := of_decide_eq_true h5
    have := k.2.2.1; omega
  · have h6 : (l.length : Int) < 1 := of_decide_eq_true h6
    have := k.2.2.2.1; omega
  · have h7 : 6 < (l.length : Int) := of_decide_eq_true h7
    have := k.2.2.2.1; omega
  have h1 : nameB nm = true := by have h1 : (!nameB nm) = false := h1; simpa using h1
  have h2 : ¬ pr < -1000 := of_decide_eq_false h2
  have h3 : ¬ 1000 < pr := of_decide_eq_false h3
  have h4 : ¬ po < 0 := of_decide_eq_false h4
  have h5 : ¬ 2 < po := of_decide_eq_false h5
  have h6 : ¬ (l.length : Int) < 1 := of_decide_eq_false h6
  have h7 : ¬ 6 < (l.length : Int) := of_decide_eq_false h7
  refine run_inv (ι := Nat) (fun i => l.length - i) (fun i => i ≤ l.length ∧ ∀ j, j < i → findC l (l.getD j c0).1 = (j : Int) ∧ contB (l.getD j c0) = true) (poA (nm, pr, po, l, u)) (fun _ => poS (nm, pr, po, l, u)) 1 0 (fun i => i) (by rfl) (by rfl) ⟨Nat.zero_le _, fun j hj => by omega⟩ ?_ ⟨impP_refl _, impP_refl _, impP_refl _, impP_refl _, impP_refl _, trivial⟩ ⟨impP_refl _, trivial⟩
  intro i hi ih
  refine exploreB_ok (by first | exact ok _ | exact (ok _).at _ | exact (ok _).round _) (mkM_ok Fs3_ok emptyS_ok) (callB_ok emptyB_ok) (u := false) 60 (.any) _ rfl ?_
  conv => arg 5; cbv
  have e := rd_list l
  have l1 : (rdL shC.rd (fun _ => (l.length : Int)) fun j => shC.mk fun _ => (l : List shC.val).getD (j ()).toNat shC.dflt).length ≤ 100000 := by
    rw [rdL_len]; show ((l.length : Nat) : Int).toNat ≤ _; omega
  refine ⟨fun h => ?_, fun h => ?_⟩
  · have h : (i : Int) < (l.length : Int) := of_decide_eq_true h
    have hi2 : i < l.length := by omega
    have hw : IntKind.i64.wrap ((i : Int) + 1) = ((i + 1 : Nat) : Int) := by rw [IntWalk.i64_in _ ⟨by omega, by omega⟩]; omega
    have hs := findC_self hi2
    have key : ∀ b : Bool, ((if findC (rdL shC.rd (fun _ => (l.length : Int)) fun j => shC.mk fun _ => (l : List shC.val).getD (j ()).toNat shC.dflt) (l.getD i c0).1 < 0 then 0 else findC (rdL shC.rd (fun _ => (l.length : Int)) fun j => shC.mk fun _ => (l : List shC.val).getD (j ()).toNat shC.dflt) (l.getD i c0).1) != (i : Int)) = b → (findC l (l.getD i c0).1 != (i : Int)) = b := fun b hb => by
      have := congrArg (fun q => ((if findC q (l.getD i c0).1 < 0 then 0 else findC q (l.getD i c0).1) != (i : Int))) e
      have this : ((if findC l (l.getD i c0).1 < 0 then 0 else findC l (l.getD i c0).1) != (i : Int)) = b := this.symm.trans hb
      rwa [if_neg (by omega)] at this
    refine ⟨⟨⟨Int.natCast_nonneg i, h⟩, Nat.le_trans l1 (by omega), fun j => fits_of_mk shC _, trivial⟩, fun g => ⟨rfl, podB_no fun k => ?_⟩, fun g => ⟨fun g2 => ⟨rfl, podB_no fun k => ?_⟩, fun g2 => ?_⟩⟩
    · have g := key true g
      rw [(k.2.2.2.2.1 i hi2).1] at g
      simp at g
    · have g2 : (!contB (l.getD i c0)) = true := g2
      rw [(k.2.2.2.2.1 i hi2).2] at g2
      cases g2
    · have g := key false g
      have g : findC l (l.getD i c0).1 = (i : Int) := by simpa using g
      have g2 : (!contB (l.getD i c0)) = false := g2
      have g2 : contB (l.getD i c0) = true := by simpa using g2
      refine ih (i + 1) (fun i => i) ⟨by omega, fun j hj => ?_⟩ (by omega) (by rfl) ⟨⟨rfl, hw⟩, impP_refl _, impP_refl _, impP_refl _, impP_refl _, trivial⟩ ⟨impP_refl _, trivial⟩
      by_cases ej : j < i
      · exact hi.2 j ej
      · obtain rfl : j = i := by omega
        exact ⟨g, g2⟩
  · have h : ¬ (i : Int) < (l.length : Int) := of_decide_eq_false h
    have hall : ∀ j, j < l.length → findC l (l.getD j c0).1 = (j : Int) ∧ contB (l.getD j c0) = true := fun j hj => hi.2 j (by omega)
    refine ⟨⟨l1, fun j => fits_of_mk shC _, trivial⟩, rfl, ?_⟩
    refine (congrArg sumsB e).trans ?_
    rw [Bool.eq_iff_iff, podB_iff]
    exact ⟨fun k => ⟨h1, by omega, by omega, by omega, hall, k⟩, fun k => k.2.2.2.2.2⟩
end Go.Proofs.YtpbjcabecalpaaaGreatDoor
namespace Go.Proofs.YtpbjcabecalpaaaGreatDoor
open Go Go.Abs Go.Proofs
def veq (a b : VV) : Bool := (a.1 == b.1) && ((a.2.1 == b.2.1) && ((a.2.2.1 == b.2.2.1) && true))
def ceq (c d : CV) : Bool := decide (c.1 = d.1) && (veq c.2.1 d.2.1 && (veq c.2.2.1 d.2.2.1 && (decide (c.2.2.2.1 = d.2.2.2.1) && true)))
theorem veq_iff {a b : VV} : veq a b = true ↔ a = b := by
  obtain ⟨a1, a2, a3, _⟩ := a
  obtain ⟨b1, b2, b3, _⟩ := b
  simp [veq]
theorem ceq_iff {c d : CV} : ceq c d = true ↔ c = d := by
  unfold ceq
  simp only [Bool.and_eq_true, decide_eq_true_eq, veq_iff, and_true]
  obtain ⟨a1, a2, a3, a4, _⟩ := c
  obtain ⟨b1, b2, b3, b4, _⟩ := d
  simp
def eqA (l m : List CV) (i : Nat) : Env := [(13, .int .i64 fun _ => (i : Int)), (12, .int .i64 fun _ => (l.length : Int)), (0, Sh.mkL 10 shC fun _ => l), (1, Sh.mkL 10 shC fun _ => m)]
theorem list_eq {l m : List CV} : l = m ↔ l.length = m.length ∧ ∀ j, j < l.length → l.getD j c0 = m.getD j c0 := by
  constructor
  · rintro rfl; exact ⟨rfl, fun _ _ => rfl⟩
  · rintro ⟨h1, h2⟩
    apply List.ext_getElem h1
    intro j k1 k2
    have := h2 j k1
    rwa [List.getD_eq_getElem?_getD, List.getD_eq_getElem?_getD, List.getElem?_eq_getElem k1, List.getElem?_eq_getElem k2] at this
def csB (l m : List CV) : Bool := decide (l.length = m.length) && (List.range l.length).all fun j => ceq (l.getD j c0) (m.getD j c0)
theorem csB_iff {l m : List CV} : csB l m = true ↔ l = m := by
  unfold csB
  simp only [Bool.and_eq_true, decide_eq_true_eq, List.all_eq_true, List.mem_range, ceq_iff]
  exact list_eq.symm
theorem csB_no {l m : List CV} (h : l ≠ m) : csB l m = false := by
  cases hb : csB l m with
  | true => exact absurd (csB_iff.1 hb) h
  | false => rfl
theorem equal_ok (l m : List CV) (hl : l.length ≤ 9223372036854775807) : PF 59 (.cons (Sh.mkL 10 shC fun _ => l) (.cons (Sh.mkL 10 shC fun _ => m) .nil)) (.bool fun _ => csB l m) := by
  refine (⟨Tryz.func59, rfl, rfl, rfl, ⟨rfl, rfl⟩, ok _⟩ : FN 59 Tryz.f59).treeB (mkM_ok Fs3_ok emptyS_ok) (callB_ok emptyB_ok) false 60 (.any) rfl ?_
  conv => arg 5; cbv
  refine ⟨fun h => ⟨rfl, csB_no fun e => ?_⟩, fun h => ?_⟩
  · have h : ((l.length : Int) != (m.length : Int)) = true := h
    rw [e] at h; simp at h
  have h : ((l.length : Int) != (m.length : Int)) = false := h
  have hlen : l.length = m.length := by
    have : (l.length : Int) = (m.length : Int) := by simpa using h
    omega
  refine run_inv (ι := Nat) (fun i => l.length - i) (fun i => i ≤ l.length ∧ ∀ j, j < i → l.getD j c0 = m.getD j c0) (eqA l m) (fun _ => []) 0 0 (fun i => i) (by rfl) (by rfl) ⟨Nat.zero_le _, fun j hj => by omega⟩ ?_ ⟨impP_refl _, impP_refl _, impP_refl _, impP_refl _, trivial⟩ trivial
  intro i hi ih
  refine exploreB_ok (by first | exact ok _ | exact (ok _).at _ | exact (ok _).round _) (mkM_ok Fs3_ok emptyS_ok) (callB_ok emptyB_ok) (u := false) 60 (.any) _ rfl ?_
  conv => arg 5; cbv
  refine ⟨fun h => ?_, fun h => ⟨rfl, csB_iff.2 (list_eq.2 ⟨hlen, fun j hj => hi.2 j ?_⟩)⟩⟩
  · have h : (i : Int) < (l.length : Int) := of_decide_eq_true h
    have hi2 : i < l.length := by omega
    have hw : IntKind.i64.wrap ((i : Int) + 1) = ((i + 1 : Nat) : Int) := by rw [IntWalk.i64_in _ ⟨by omega, by omega⟩]; omega
    refine ⟨⟨⟨Int.natCast_nonneg i, h⟩, ⟨Int.natCast_nonneg i, by show (i : Int) < (m.length : Int); omega⟩, (by show drawOK _ _ = true; decide +kernel), trivial⟩, fun g => ⟨rfl, csB_no fun e => ?_⟩, fun g => ?_⟩
    · have g : (!ceq (l.getD i c0) (m.getD i c0)) = true := g
      rw [e, ceq_iff.2 rfl] at g; cases g
    · have g : (!ceq (l.getD i c0) (m.getD i c0)) = false := g
      have g : ceq (l.getD i c0) (m.getD i c0) = true := by simpa using g
      refine ih (i + 1) (fun i => i) ⟨by omega, fun j hj => ?_⟩ (by omega) (by rfl) ⟨⟨rfl, hw⟩, impP_refl _, impP_refl _, impP_refl _, trivial⟩ trivial
      by_cases ej : j < i
      · exact hi.2 j ej
      · obtain rfl : j = i := by omega
        exact ceq_iff.1 g
  · have h : ¬ (i : Int) < (l.length : Int) := of_decide_eq_false h
    omega
theorem rsums_ok (p : PoV) (hl : p.2.2.2.1.length ≤ 100000) : PF 45 (.cons (podP p) .nil) (suP p.2.2.2.1) := by
  obtain ⟨nm, pr, po, l, _⟩ := p
  have hl : l.length ≤ 100000 := hl
  refine (⟨Tryz.func45, rfl, rfl, rfl, ⟨rfl, rfl⟩, ok _⟩ : FN 45 Tryz.f45).treeB (mkM_ok Fs3_ok emptyS_ok) (callB_ok emptyB_ok) false 60 (.any) rfl ?_
  conv => arg 5; cbv
  refine run_own (A := _) 5 3 45 zV (by rfl) (by rfl) (by rfl) ?_
  refine run_own (A := _) 6 3 45 zV (by rfl) (by rfl) (by rfl) ?_
  refine run_inv (ι := SuX) (fun x => l.length - x.i) (fun x => x.i ≤ l.length ∧ x.ws = (l.take x.i).map cReq ∧ x.vs = (l.take x.i).map cLim) (suA l) (fun _ => suS) 5 ⟨0, [], []⟩ (fun i => i) (by rfl) (by rfl) ⟨Nat.zero_le _, rfl, rfl⟩ ?_ ⟨impP_refl _, impP_refl _, impP_refl _, ⟨.inr rfl, rfl, rfl, fun j h0 h1 => absurd h1 (by show ¬ j < 0; omega)⟩, ⟨.inr rfl, rfl, rfl, fun j h0 h1 => absurd h1 (by show ¬ j < 0; omega)⟩, impP_refl _, impP_refl _, trivial⟩ ⟨impP_refl _, impP_refl _, ⟨rfl, rfl⟩, ⟨rfl, rfl⟩, trivial⟩
  rintro ⟨i, ws, vs⟩ ⟨hi, hw, hv⟩ ih
  dsimp only at hi hw hv
  have hwl : ws.length ≤ i := by rw [hw, List.length_map, List.length_take]; omega
  have hvl : vs.length ≤ i := by rw [hv, List.length_map, List.length_take]; omega
  refine exploreB_ok (by first | exact ok _ | exact (ok _).at _ | exact (ok _).round _) (mkM_ok Fs3_ok emptyS_ok) (callB_ok emptyB_ok) (u := false) 60 (.any) _ rfl ?_
  conv => arg 5; cbv
  refine ⟨fun h => ?_, fun h => ?_⟩
  · have h : (i : Int) < (l.length : Int) := of_decide_eq_true h
    have hi2 : i < l.length := by omega
    have hw8 : IntKind.i64.wrap ((i : Int) + 1) = ((i + 1 : Nat) : Int) := by rw [IntWalk.i64_in _ ⟨by omega, by omega⟩]; omega
    refine ⟨⟨⟨Int.natCast_nonneg i, h⟩, ?_, ?_, trivial⟩, ?_⟩
    · show (0 : Int) < 1 ∧ ((ws.length : Int) + 1) * 24 ≤ 140737488355328
      omega
    · show (0 : Int) < 1 ∧ ((vs.length : Int) + 1) * 24 ≤ 140737488355328
      omega
    refine ih ⟨i + 1, ws ++ [cReq (l.getD i c0)], vs ++ [cLim (l.getD i c0)]⟩ ren34 ⟨by dsimp only; omega, ?_, ?_⟩ (by dsimp only; omega) (by rfl) ⟨⟨rfl, hw8⟩, impP_refl _, impP_refl _, push_imp shVe (some 6) 3 ws (cReq (l.getD i c0)), push_imp shVe (some 7) 3 vs (cLim (l.getD i c0)), impP_refl _, impP_refl _, trivial⟩ ⟨impP_refl _, impP_refl _, ⟨rfl, rfl⟩, ⟨rfl, rfl⟩, trivial⟩
    · show ws ++ _ = (l.take (i + 1)).map cReq
      rw [take_map cReq hi2, hw]
    · show vs ++ _ = (l.take (i + 1)).map cLim
      rw [take_map cLim hi2, hv]
  · have h : ¬ (i : Int) < (l.length : Int) := of_decide_eq_false h
    have e : i = l.length := by omega
    rw [e, List.take_length] at hw hv
    have e1 : (rdL shV.rd (fun _ => (ws.length : Int)) fun j => shVe.mk fun _ => (ws : List shVe.val).getD (j ()).toNat shVe.dflt) = l.map cReq := (rdL_mkL shV ws).trans hw
    have e2 : (rdL shV.rd (fun _ => (vs.length : Int)) fun j => shVe.mk fun _ => (vs : List shVe.val).getD (j ()).toNat shVe.dflt) = l.map cLim := (rdL_mkL shV vs).trans hv
    have l1 : (rdL shV.rd (fun _ => (ws.length : Int)) fun j => shVe.mk fun _ => (ws : List shVe.val).getD (j ()).toNat shVe.dflt).length < 9223372036854775807 := by
      rw [rdL_len]; show ((ws.length : Nat) : Int).toNat < _; omega
    have l2 : (rdL shV.rd (fun _ => (vs.length : Int)) fun j => shVe.mk fun _ => (vs : List shVe.val).getD (j ()).toNat shVe.dflt).length < 9223372036854775807 := by
      rw [rdL_len]; show ((vs.length : Nat) : Int).toNat < _; omega
    refine ⟨⟨l1, fun j => fits_of_mk shV _, l2, fun j => fits_of_mk shV _, trivial⟩, fun h1 => ⟨⟨(by show drawOK _ _ = true; decide +kernel), trivial⟩, rfl, ?_⟩, fun h1 => ⟨⟨(by show drawOK _ _ = true; decide +kernel), trivial⟩, rfl, ?_⟩⟩
    all_goals
      refine ⟨⟨⟨rfl, congrArg (fun q : List shV.val => ((sumL q (0, 0, 0)).getD (0, 0, 0)).1) e1⟩, ⟨rfl, congrArg (fun q : List shV.val => ((sumL q (0, 0, 0)).getD (0, 0, 0)).2.1) e1⟩, ⟨rfl, congrArg (fun q : List shV.val => ((sumL q (0, 0, 0)).getD (0, 0, 0)).2.2) e1⟩, rfl⟩, ⟨⟨rfl, congrArg (fun q : List shV.val => ((sumL q (0, 0, 0)).getD (0, 0, 0)).1) e2⟩, ⟨rfl, congrArg (fun q : List shV.val => ((sumL q (0, 0, 0)).getD (0, 0, 0)).2.1) e2⟩, ⟨rfl, congrArg (fun q : List shV.val => ((sumL q (0, 0, 0)).getD (0, 0, 0)).2.2) e2⟩, rfl⟩, ?_, rfl⟩
    · have h1 : (sumL2 (l.map cReq)).isSome = true := (congrArg (fun q : List shV.val => (sumL q (0, 0, 0)).isSome) e1).symm.trans h1
      have h2 := congrArg (fun q : List shV.val => (sumL q (0, 0, 0)).isSome) e2
      refine h2.trans ?_
      show (sumL2 (l.map cLim)).isSome = sumsB l
      unfold sumsB
      rw [h1, Bool.true_and]
    · have h1 : (sumL2 (l.map cReq)).isSome = false := (congrArg (fun q : List shV.val => (sumL q (0, 0, 0)).isSome) e1).symm.trans h1
      show sumsB l = false
      unfold sumsB
      rw [h1]; rfl
end Go.Proofs.YtpbjcabecalpaaaGreatDoor
namespace Go.Proofs.YtpbjcabecalpaaaGreatDoor
open Go Go.Abs Go.Proofs
noncomputable def Fs4 : Table := addS 59 (.cons (.slice 10 shC) (.cons (.slice 10 shC) .nil)) (fun l m => (.bool fun _ => csB (l ()) (m ()), [fun _ => List.length (α := CV) (l ()) ≤ 9223372036854775807])) (addS 45 (.cons shP .nil) (fun nm pr po l => (.tuple (.cons (.agg (.cons (.int .i64 fun _ => ((sumL2 (List.map (α := CV) cReq (l ()))).getD (0, 0, 0)).1) (.cons (.int .i64 fun _ => ((sumL2 (List.map (α := CV) cReq (l ()))).getD (0, 0, 0)).2.1) (.cons (.int .i64 fun _ => ((sumL2 (List.map (α := CV) cReq (l ()))).getD (0, 0, 0)).2.2) .nil)))) (.cons (.agg (.cons (.int .i64 fun _ => ((sumL2 (List.map (α := CV) cLim (l ()))).getD (0, 0, 0)).1) (.cons (.int .i64 fun _ => ((sumL2 (List.map (α := CV) cLim (l ()))).getD (0, 0, 0)).2.1) (.cons (.int .i64 fun _ => ((sumL2 (List.map (α := CV) cLim (l ()))).getD (0, 0, 0)).2.2) .nil)))) (.cons (.bool fun _ => sumsB (l ())) .nil))), [fun _ => List.length (α := CV) (l ()) ≤ 100000])) (addS 53 (.cons shP .nil) (fun nm pr po l => (.bool fun _ => podB (nm (), pr (), po (), l (), ()), [])) Fs3))
theorem Fs4_ok : TableOK Tryz.prog G0 Fs4 := addS_ok (⟨Tryz.func59, rfl, rfl, rfl, ⟨rfl, rfl⟩, ok _⟩ : FN 59 Tryz.f59).callable (fun l m h => equal_ok (l ()) (m ()) h.1) (addS_ok (⟨Tryz.func45, rfl, rfl, rfl, ⟨rfl, rfl⟩, ok _⟩ : FN 45 Tryz.f45).callable (fun nm pr po l h => rsums_ok (nm (), pr (), po (), l (), ()) h.1) (addS_ok (⟨Tryz.func53, rfl, rfl, rfl, ⟨rfl, rfl⟩, ok _⟩ : FN 53 Tryz.f53).callable (fun nm pr po l _ => pod_ok (nm (), pr (), po (), l (), ())) Fs3_ok))
def samB (p q : PoV) : Bool := decide (p.1 = q.1) && (p.2.1 == q.2.1) && (p.2.2.1 == q.2.2.1) && csB p.2.2.2.1 q.2.2.2.1
theorem samB_iff {p q : PoV} : samB p q = true ↔ p = q := by
  unfold samB
  simp only [Bool.and_eq_true, decide_eq_true_eq, csB_iff, beq_iff_eq]
  obtain ⟨a1, a2, a3, a4, _⟩ := p
  obtain ⟨b1, b2, b3, b4, _⟩ := q
  simp only [Prod.mk.injEq, and_true]
  constructor
  · rintro ⟨⟨⟨h1, h2⟩, h3⟩, h4⟩; exact ⟨h1, h2, h3, h4⟩
  · rintro ⟨h1, h2, h3, h4⟩; exact ⟨⟨⟨h1, h2⟩, h3⟩, h4⟩
theorem samB_no {p q : PoV} (h : p ≠ q) : samB p q = false := by
  cases hb : samB p q with
  | true => exact absurd (samB_iff.1 hb) h
  | false => rfl
theorem same_ok (p q : PoV) (hl : p.2.2.2.1.length ≤ 9223372036854775807) : PF 29 (.cons (podP p) (.cons (podP q) .nil)) (.bool fun _ => samB p q) := by
  refine (⟨Tryz.func29, rfl, rfl, rfl, ⟨rfl, rfl⟩, ok _⟩ : FN 29 Tryz.f29).treeB (mkM_ok Fs4_ok emptyS_ok) (callB_ok emptyB_ok) false 60 (.any) rfl ?_
  conv => arg 5; cbv
  have e1 := rd_list p.2.2.2.1
  have e2 := rd_list q.2.2.2.1
  have l1 : (rdL shC.rd (fun _ => (p.2.2.2.1.length : Int)) fun j => shC.mk fun _ => (p.2.2.2.1 : List shC.val).getD (j ()).toNat shC.dflt).length ≤ 9223372036854775807 := by
    rw [rdL_len]; show ((p.2.2.2.1.length : Nat) : Int).toNat ≤ _; omega
  refine ⟨fun h1 => ⟨fun h2 => ⟨fun h3 => ⟨⟨l1, fun j => fits_of_mk shC _, fun j => fits_of_mk shC _, trivial⟩, rfl, ?_⟩, fun h3 => ⟨rfl, ?_⟩⟩, fun h2 => ⟨rfl, ?_⟩⟩, fun h1 => ⟨rfl, ?_⟩⟩
  · have h1 : decide (p.1 = q.1) = true := h1
    have h2 : (p.2.1 == q.2.1) = true := h2
    have h3 : (p.2.2.1 == q.2.2.1) = true := h3
    have hc : csB (rdL shC.rd (fun _ => (p.2.2.2.1.length : Int)) fun j => shC.mk fun _ => (p.2.2.2.1 : List shC.val).getD (j ()).toNat shC.dflt) (rdL shC.rd (fun _ => (q.2.2.2.1.length : Int)) fun j => shC.mk fun _ => (q.2.2.2.1 : List shC.val).getD (j ()).toNat shC.dflt) = csB p.2.2.2.1 q.2.2.2.1 := by
      exact (congrArg (fun x => csB x _) e1).trans (congrArg (fun x => csB p.2.2.2.1 x) e2)
    refine hc.trans ?_
    unfold samB
    rw [h1, h2, h3]; rfl
  · have h3 : (p.2.2.1 == q.2.2.1) = false := h3
    show samB p q = false
    unfold samB
    rw [h3, Bool.and_false, Bool.false_and]
  · have h2 : (p.2.1 == q.2.1) = false := h2
    show samB p q = false
    unfold samB
    rw [h2, Bool.and_false, Bool.false_and, Bool.false_and]
  · have h1 : decide (p.1 = q.1) = false := h1
    show samB p q = false
    unfold samB
    rw [h1]; rfl
def rmA (l : List CV) (i : Nat) : Env := [(37, .int .i64 fun _ => (i : Int)), (36, .int .i64 fun _ => (l.length : Int)), (3, .ptr 1 0), (2, .ptr 0 0)]
def rmS (p q : PoV) : Store := [(0, .var (podP p)), (1, .var (podP q))]
theorem rsame_ok (p q : PoV) (hl : p.2.2.2.1.length ≤ 9223372036854775807) : PF 21 (.cons (podP p) (.cons (podP q) .nil)) (.bool fun _ => samB p q) := by
  obtain ⟨nm, pr, po, l, u⟩ := p
  obtain ⟨nm', pr', po', m, u'⟩ := q
  refine (⟨Tryz.func21, rfl, rfl, rfl, ⟨rfl, rfl⟩, ok _⟩ : FN 21 Tryz.f21).treeB (mkM_ok Fs4_ok emptyS_ok) (callB_ok emptyB_ok) false 60 (.any) rfl ?_
  conv => arg 5; cbv
  refine ⟨fun h1 => ⟨rfl, samB_no fun e => ?_⟩, fun h1 => ⟨fun h2 => ⟨rfl, samB_no fun e => ?_⟩, fun h2 => ⟨fun h3 => ⟨rfl, samB_no fun e => ?_⟩, fun h3 => ⟨fun h4 => ⟨rfl, samB_no fun e => ?_⟩, fun h4 => ?_⟩⟩⟩⟩
  · have h1 : ¬ nm = nm' := of_decide_eq_true (p := ¬ nm = nm') h1
    exact h1 (congrArg (·.1) e)
  · have h2 : (pr != pr') = true := h2
    rw [show pr = pr' from congrArg (·.2.1) e] at h2; simp at h2
  · have h3 : (po != po') = true := h3
    rw [show po = po' from congrArg (·.2.2.1) e] at h3; simp at h3
  · have h4 : ((l.length : Int) != (m.length : Int)) = true := h4
    rw [show l = m from congrArg (·.2.2.2.1) e] at h4; simp at h4
  have h1 : nm = nm' := by
    have h1 : ¬ ¬ nm = nm' := of_decide_eq_false (p := ¬ nm = nm') h1
    exact Decidable.not_not.1 h1
  have h2 : pr = pr' := by have h2 : (pr != pr') = false := h2; simpa using h2
  have h3 : po = po' := by have h3 : (po != po') = false := h3; simpa using h3
  have h4 : l.length = m.length := by
    have h4 : ((l.length : Int) != (m.length : Int)) = false := h4
    have : (l.length : Int) = (m.length : Int) := by simpa using h4
    omega
  refine run_inv (ι := Nat) (fun i => l.length - i) (fun i => i ≤ l.length ∧ ∀ j, j < i → l.getD j c0 = m.getD j c0) (rmA l) (fun _ => rmS (nm, pr, po, l, u) (nm', pr', po', m, u')) 2 0 (fun i => i) (by rfl) (by rfl) ⟨Nat.zero_le _, fun j hj => by omega⟩ ?_ ⟨impP_refl _, impP_refl _, impP_refl _, impP_refl _, trivial⟩ ⟨impP_refl _, impP_refl _, trivial⟩
  intro i hi ih
  refine exploreB_ok (by first | exact ok _ | exact (ok _).at _ | exact (ok _).round _) (mkM_ok Fs4_ok emptyS_ok) (callB_ok emptyB_ok) (u := false) 60 (.any) _ rfl ?_
  conv => arg 5; cbv
  have hi1 := hi.1
  refine ⟨fun h => ?_, fun h => ⟨rfl, samB_iff.2 ?_⟩⟩
  · have h : (i : Int) < (l.length : Int) := of_decide_eq_true h
    have hi2 : i < l.length := by omega
    have hw : IntKind.i64.wrap ((i : Int) + 1) = ((i + 1 : Nat) : Int) := by
      have hl : l.length ≤ 9223372036854775807 := hl
      rw [IntWalk.i64_in _ ⟨by omega, by omega⟩]; omega
    refine ⟨⟨⟨Int.natCast_nonneg i, h⟩, ⟨Int.natCast_nonneg i, by show (i : Int) < (m.length : Int); omega⟩, (by show drawOK _ _ = true; decide +kernel), trivial⟩, fun g => ⟨rfl, samB_no fun e => ?_⟩, fun g => ?_⟩
    · have g : (!ceq (l.getD i c0) (m.getD i c0)) = true := g
      rw [show l = m from congrArg (·.2.2.2.1) e, ceq_iff.2 rfl] at g; cases g
    · have g : (!ceq (l.getD i c0) (m.getD i c0)) = false := g
      have g : ceq (l.getD i c0) (m.getD i c0) = true := by simpa using g
      refine ih (i + 1) (fun i => i) ⟨by omega, fun j hj => ?_⟩ (by omega) (by rfl) ⟨⟨rfl, hw⟩, impP_refl _, impP_refl _, impP_refl _, trivial⟩ ⟨impP_refl _, impP_refl _, trivial⟩
      by_cases ej : j < i
      · exact hi.2 j ej
      · obtain rfl : j = i := by omega
        exact ceq_iff.1 g
  · have h : ¬ (i : Int) < (l.length : Int) := of_decide_eq_false h
    rw [h1, h2, h3, list_eq.2 ⟨h4, fun j hj => hi.2 j (by omega)⟩]
def poA2 (p : PoV) (i j : Nat) : Env := [(62, .int .i64 fun _ => (j : Int)), (61, .int .i64 fun _ => (i : Int) - 0), (60, .slice none 10 (fun _ => (i : Int) - 0) fun j => shC.mk fun _ => (p.2.2.2.1 : List shC.val).getD (0 + j ()).toNat shC.dflt), (49, .int .i64 fun _ => (i : Int)), (48, .int .i64 fun _ => (p.2.2.2.1.length : Int)), (47, Sh.mkL 10 shC fun _ => p.2.2.2.1), (4, .ptr 1 0), (3, .int .i64 fun _ => (i : Int)), (1, .ptr 0 0), (0, podP p)]
def poS2 (p : PoV) (i : Nat) : Store := [(0, .var (podP p)), (1, .var (shC.mk fun _ => (p.2.2.2.1 : List CV).getD i c0))]
theorem rpod_ok (p : PoV) (hl : p.1.size < 2147483648) (hc : ∀ c ∈ p.2.2.2.1, (c.1 : ByteArray).size < 2147483648) : PF 20 (.cons (podP p) .nil) (.bool fun _ => podB p) := by
  obtain ⟨nm, pr, po, l, u⟩ := p
  refine (⟨Tryz.func20, rfl, rfl, rfl, ⟨rfl, rfl⟩, ok _⟩ : FN 20 Tryz.f20).treeB (mkM_ok Fs4_ok emptyS_ok) (callB_ok emptyB_ok) false 60 (.any) rfl ?_
  conv => arg 5; cbv
  refine ⟨⟨hl, trivial⟩, fun h1 => ⟨rfl, podB_no fun k => ?_⟩, fun h1 => ⟨fun h2 => ⟨rfl, podB_no fun k => ?_⟩, fun h2 => ⟨fun h3 => ⟨rfl, podB_no fun k => ?_⟩, fun h3 => ⟨fun h4 => ⟨rfl, podB_no fun k => ?_⟩, fun h4 => ⟨fun h5 => ⟨rfl, podB_no fun k => ?_⟩, fun h5 => ⟨fun h6 => ⟨rfl, podB_no fun k => ?_⟩, fun h6 => ⟨fun h7 => ⟨rfl, podB_no fun k => ?_⟩, fun h7 => ?_⟩⟩⟩⟩⟩⟩⟩
  · have h1 : (!nameB nm) = true := h1
    rw [k.1] at h1; cases h1
  · have h2 : pr < -1000 := of_decide_eq_true h2
    have := k.2.1; omega
  · have h3 : 1000 < pr := of_decide_eq_true h3
    have := k.2.1; omega
  · have h4 : po < 0 := of_decide_eq_true h4
    have := k.2.2.1; omega
  · have h5 : 2 < po := of_decide_eq_true h5
    have := k.2.2.1; omega
  · have h6 : (l.length : Int) < 1 := of_decide_eq_true h6
    have := k.2.2.2.1; omega
  · have h7 : 6 < (l.length : Int) := of_decide_eq_true h7
    have := k.2.2.2.1; omega
  have h1 : nameB nm = true := by have h1 : (!nameB nm) = false := h1; simpa using h1
  have h2 : ¬ pr < -1000 := of_decide_eq_false h2
  have h3 : ¬ 1000 < pr := of_decide_eq_false h3
  have h4 : ¬ po < 0 := of_decide_eq_false h4
  have h5 : ¬ 2 < po := of_decide_eq_false h5
  have h6 : ¬ (l.length : Int) < 1 := of_decide_eq_false h6
  have h7 : ¬ 6 < (l.length : Int) := of_decide_eq_false h7
  refine run_inv (ι := Nat) (fun i => l.length - i) (fun i => i ≤ l.length ∧ ∀ j, j < i → findC l (l.getD j c0).1 = (j : Int) ∧ contB (l.getD j c0) = true) (poA (nm, pr, po, l, u)) (fun _ => poS (nm, pr, po, l, u)) 1 0 (fun i => i) (by rfl) (by rfl) ⟨Nat.zero_le _, fun j hj => by omega⟩ ?_ ⟨impP_refl _, impP_refl _, impP_refl _, impP_refl _, impP_refl _, trivial⟩ ⟨impP_refl _, trivial⟩
  intro i hi ih
  refine exploreB_ok (by first | exact ok _ | exact (ok _).at _ | exact (ok _).round _) (mkM_ok Fs4_ok emptyS_ok) (callB_ok emptyB_ok) (u := false) 60 (.any) _ rfl ?_
  conv => arg 5; cbv
  have e := rd_list l
  have l1 : (rdL shC.rd (fun _ => (l.length : Int)) fun j => shC.mk fun _ => (l : List shC.val).getD (j ()).toNat shC.dflt).length ≤ 100000 := by
    rw [rdL_len]; show ((l.length : Nat) : Int).toNat ≤ _; omega
  have hi1 := hi.1
  refine ⟨fun h => ?_, fun h => ?_⟩
  · have h : (i : Int) < (l.length : Int) := of_decide_eq_true h
    have hi2 : i < l.length := by omega
    have hw : IntKind.i64.wrap ((i : Int) + 1) = ((i + 1 : Nat) : Int) := by rw [IntWalk.i64_in _ ⟨by omega, by omega⟩]; omega
    have hci : (l.getD i c0).1.size < 2147483648 := hc _ (by rw [List.getD_eq_getElem?_getD, List.getElem?_eq_getElem hi2]; exact List.getElem_mem hi2)
    refine ⟨⟨⟨Int.natCast_nonneg i, h⟩, hci, trivial⟩, fun g2 => ⟨rfl, podB_no fun k => ?_⟩, fun g2 => ⟨⟨⟨Int.natCast_nonneg i, by show (i : Int) ≤ (l.length : Int); omega⟩, trivial⟩, ?_⟩⟩
    · have g2 : (!contB (l.getD i c0)) = true := g2
      rw [(k.2.2.2.2.1 i hi2).2] at g2
      cases g2
    have g2 : (!contB (l.getD i c0)) = false := g2
    have g2 : contB (l.getD i c0) = true := by simpa using g2
    refine run_inv (ι := Nat) (fun j => i - j) (fun j => j ≤ i ∧ ∀ q, q < j → (l.getD q c0).1 ≠ (l.getD i c0).1) (poA2 (nm, pr, po, l, u) i) (fun _ => poS2 (nm, pr, po, l, u) i) 2 0 (fun i => i) (by rfl) (by rfl) ⟨Nat.zero_le _, fun j hj => by omega⟩ ?_ ⟨impP_refl _, impP_refl _, impP_refl _, impP_refl _, impP_refl _, impP_refl _, impP_refl _, impP_refl _, impP_refl _, impP_refl _, trivial⟩ ⟨impP_refl _, impP_refl _, trivial⟩
    intro j hj ih2
    refine exploreB_ok (by first | exact ok _ | exact (ok _).at _ | exact (ok _).round _) (mkM_ok Fs4_ok emptyS_ok) (callB_ok emptyB_ok) (u := false) 60 (.any) _ rfl ?_
    conv => arg 5; cbv
    have hj1 := hj.1
    have hz : (0 + (j : Int)).toNat = j := by omega
    refine ⟨fun k1 => ⟨⟨⟨Int.natCast_nonneg j, of_decide_eq_true k1⟩, trivial⟩, fun k2 => ⟨rfl, podB_no fun k => ?_⟩, fun k2 => ?_⟩, fun k1 => ?_⟩
    · have k1 : (j : Int) < (i : Int) - 0 := of_decide_eq_true k1
      have k2 : (l.getD i c0).1 = (l.getD (0 + (j : Int)).toNat c0).1 := of_decide_eq_true k2
      rw [hz] at k2
      have f1 := (k.2.2.2.2.1 i hi2).1
      have f2 := (k.2.2.2.2.1 j (by omega)).1
      have f1 : findC l (l.getD i c0).1 = (i : Int) := f1
      have f2 : findC l (l.getD j c0).1 = (j : Int) := f2
      rw [k2, f2] at f1
      omega
    · have k1 : (j : Int) < (i : Int) - 0 := of_decide_eq_true k1
      have k2 : ¬ (l.getD i c0).1 = (l.getD (0 + (j : Int)).toNat c0).1 := of_decide_eq_false k2
      rw [hz] at k2
      have hwj : IntKind.i64.wrap ((j : Int) + 1) = ((j + 1 : Nat) : Int) := by rw [IntWalk.i64_in _ ⟨by omega, by omega⟩]; omega
      refine ih2 (j + 1) (fun i => i) ⟨by omega, fun q hq => ?_⟩ (by omega) (by rfl) ⟨⟨rfl, hwj⟩, impP_refl _, impP_refl _, impP_refl _, impP_refl _, impP_refl _, impP_refl _, impP_refl _, impP_refl _, impP_refl _, trivial⟩ ⟨impP_refl _, impP_refl _, trivial⟩
      by_cases eq : q < j
      · exact hj.2 q eq
      · obtain rfl : q = j := by omega
        exact fun e => k2 e.symm
    · have k1 : ¬ (j : Int) < (i : Int) - 0 := of_decide_eq_false k1
      have hj2 : ∀ q, q < i → (l.getD q c0).1 ≠ (l.getD i c0).1 := fun q hq => hj.2 q (by omega)
      refine ih (i + 1) (fun i => i) ⟨by omega, fun q hq => ?_⟩ (by omega) (by rfl) ⟨⟨rfl, hw⟩, impP_refl _, impP_refl _, impP_refl _, impP_refl _, trivial⟩ ⟨impP_refl _, trivial⟩
      by_cases eq : q < i
      · exact hi.2 q eq
      · obtain rfl : q = i := by omega
        exact ⟨findC_at hi2 hj2 rfl, g2⟩
  · have h : ¬ (i : Int) < (l.length : Int) := of_decide_eq_false h
    have hall : ∀ j, j < l.length → findC l (l.getD j c0).1 = (j : Int) ∧ contB (l.getD j c0) = true := fun j hj => hi.2 j (by omega)
    refine ⟨⟨l1, fun j => fits_of_mk shC _, trivial⟩, rfl, ?_⟩
    refine (congrArg sumsB e).trans ?_
    rw [Bool.eq_iff_iff, podB_iff]
    exact ⟨fun k => ⟨h1, by omega, by omega, by omega, hall, k⟩, fun k => k.2.2.2.2.2⟩
end Go.Proofs.YtpbjcabecalpaaaGreatDoor
