/- A part of what the walks of this claim stand on. -/
import Derived.Test.YtpbjcabecalpaaaGreatDoorWag
import Derived.Test.YtpbjcabecalpaaaGreatDoorGac
import Derived.Test.YtpbjcabecalpaaaGreatDoorWae
import Derived.Test.YtpbjcabecalpaaaGreatDoorShelf
set_option maxRecDepth 2000
set_option linter.unusedVariables false
set_option linter.unusedSimpArgs false
namespace Go.Proofs.YtpbjcabecalpaaaGreatDoor
open Go Go.Abs Go.Proofs
def veq (a b : VV) : Bool := (a.1 == b.1) && ((a.2.1 == b.2.1) && ((a.2.2.1 == b.2.2.1) && true))
def ceq (c d : CV) : Bool := decide (c.1 = d.1) && (veq c.2.1 d.2.1 && (veq c.2.2.1 d.2.2.1 && (decide (c.2.2.2.1 = d.2.2.2.1) && true)))
theorem veq_iff {a b : VV} : veq a b = true ↔ a = b := by
 obtain ⟨a1, a2, a3, _⟩ := a
 obtain ⟨b1, b2, b3, _⟩ := b
 simp [veq]
theorem ceq_iff {c d : CV} : ceq c d = true ↔ c = d := by
 unfold ceq
 simp only [Bool.and_eq_true, decide_eq_true_eq, veq_iff, and_true]
 obtain ⟨a1, a2, a3, a4, _⟩ := c
 obtain ⟨b1, b2, b3, b4, _⟩ := d
 simp
def eqA (l m : List CV) (i : Nat) : Env := [(13, .int .i64 fun _ => (i : Int)), (12, .int .i64 fun _ => (l.length : Int)), (0, Sh.mkL 10 shC fun _ => l), (1, Sh.mkL 10 shC fun _ => m)]
theorem list_eq {l m : List CV} : l = m ↔ l.length = m.length /\ ∀ j, j < l.length -> l.getD j c0 = m.getD j c0 := by
 constructor
 ·rintro rfl; exact ⟨rfl, fun _ _ => rfl⟩
 ·rintro ⟨h1, h2⟩
  apply List.ext_getElem h1
  intro j k1 k2
  have := h2 j k1
  rwa [List.getD_eq_getElem?_getD, List.getD_eq_getElem?_getD, List.getElem?_eq_getElem k1, List.getElem?_eq_getElem k2] at this
def csB (l m : List CV) : Bool := decide (l.length = m.length) && (List.range l.length).all fun j => ceq (l.getD j c0) (m.getD j c0)
theorem csB_iff {l m : List CV} : csB l m = true ↔ l = m := by
 unfold csB
 simp only [Bool.and_eq_true, decide_eq_true_eq, List.all_eq_true, List.mem_range, ceq_iff]
 exact list_eq.symm
theorem csB_no {l m : List CV} (h : l ≠ m) : csB l m = false := by
 cases hb : csB l m with
 | true => exact absurd (csB_iff.1 hb) h
 | false => rfl
theorem equal_ok (l m : List CV) (hl : l.length <= 9223372036854775807) : PF 59 (.cons (Sh.mkL 10 shC fun _ => l) (.cons (Sh.mkL 10 shC fun _ => m) .nil)) (.bool fun _ => csB l m) := by
 refine tX qf59 Fs3_ok (.any) rfl ?_
 conv => arg 5; cbv
 refine ⟨fun h => ⟨rfl, csB_no fun e => ?_⟩, fun h => ?_⟩
 ·have h : ((l.length : Int) != (m.length : Int)) = true := h
  rw [e] at h; simp at h
 have h : ((l.length : Int) != (m.length : Int)) = false := h
 have hlen : l.length = m.length := by
  have : (l.length : Int) = (m.length : Int) := by simpa using h
  omega
 refine run_inv (ι := Nat) (fun i => l.length - i) (fun i => i <= l.length /\ ∀ j, j < i -> l.getD j c0 = m.getD j c0) (eqA l m) (fun _ => []) 0 0 (fun i => i) (by rfl) (by rfl) ⟨Nat.zero_le _, fun j hj => by omega⟩ ?_ ⟨iR, iR, iR, iR, trivial⟩ trivial
 intro i hi ih
 refine bX Fs3_ok (.any) _ rfl ?_
 conv => arg 5; cbv
 refine ⟨fun h => ?_, fun h => ⟨rfl, csB_iff.2 (list_eq.2 ⟨hlen, fun j hj => hi.2 j ?_⟩)⟩⟩
 ·have h : (i : Int) < (l.length : Int) := of_decide_eq_true h
  have hi2 : i < l.length := by omega
  have hw : IntKind.i64.wrap ((i : Int) + 1) = ((i + 1 : Nat) : Int) := by rw [IntWalk.i64_in _ ⟨by omega, by omega⟩]; omega
  refine ⟨⟨⟨Int.natCast_nonneg i, h⟩, ⟨Int.natCast_nonneg i, by show (i : Int) < (m.length : Int); omega⟩, (by show drawOK _ _ = true; decide +kernel), trivial⟩, fun g => ⟨rfl, csB_no fun e => ?_⟩, fun g => ?_⟩
  ·have g : (!ceq (l.getD i c0) (m.getD i c0)) = true := g
   rw [e, ceq_iff.2 rfl] at g; cases g
  ·have g : (!ceq (l.getD i c0) (m.getD i c0)) = false := g
   have g : ceq (l.getD i c0) (m.getD i c0) = true := by simpa using g
   refine ih (i + 1) (fun i => i) ⟨by omega, fun j hj => ?_⟩ (by omega) (by rfl) ⟨⟨rfl, hw⟩, iR, iR, iR, trivial⟩ trivial
   by_cases ej : j < i
   ·exact hi.2 j ej
   ·obtain rfl : j = i := by omega
    exact ceq_iff.1 g
 ·have h : ¬ (i : Int) < (l.length : Int) := of_decide_eq_false h
  omega
theorem rsums_ok (p : PoV) (hl : p.2.2.2.1.length <= 100000) : PF 45 (.cons (podP p) .nil) (suP p.2.2.2.1) := by
 obtain ⟨nm, pr, po, l, _⟩ := p
 have hl : l.length <= 100000 := hl
 refine tX qf45 Fs3_ok (.any) rfl ?_
 conv => arg 5; cbv
 refine run_own (A := _) 5 3 45 zV (by rfl) (by rfl) (by rfl) ?_
 refine run_own (A := _) 6 3 45 zV (by rfl) (by rfl) (by rfl) ?_
 refine run_inv (ι := SuX) (fun x => l.length - x.i) (fun x => x.i <= l.length /\ x.ws = (l.take x.i).map cReq /\ x.vs = (l.take x.i).map cLim) (suA l) (fun _ => suS) 5 ⟨0, [], []⟩ (fun i => i) (by rfl) (by rfl) ⟨Nat.zero_le _, rfl, rfl⟩ ?_ ⟨iR, iR, iR, ⟨.inr rfl, rfl, rfl, fun j h0 h1 => absurd h1 (by show ¬ j < 0; omega)⟩, ⟨.inr rfl, rfl, rfl, fun j h0 h1 => absurd h1 (by show ¬ j < 0; omega)⟩, iR, iR, trivial⟩ ⟨iR, iR, ⟨rfl, rfl⟩, ⟨rfl, rfl⟩, trivial⟩
 rintro ⟨i, ws, vs⟩ ⟨hi, hw, hv⟩ ih
 dsimp only at hi hw hv
 have hwl : ws.length <= i := by rw [hw, List.length_map, List.length_take]; omega
 have hvl : vs.length <= i := by rw [hv, List.length_map, List.length_take]; omega
 refine bX Fs3_ok (.any) _ rfl ?_
 conv => arg 5; cbv
 refine ⟨fun h => ?_, fun h => ?_⟩
 ·have h : (i : Int) < (l.length : Int) := of_decide_eq_true h
  have hi2 : i < l.length := by omega
  have hw8 : IntKind.i64.wrap ((i : Int) + 1) = ((i + 1 : Nat) : Int) := by rw [IntWalk.i64_in _ ⟨by omega, by omega⟩]; omega
  refine ⟨⟨⟨Int.natCast_nonneg i, h⟩, ?_, ?_, trivial⟩, ?_⟩
  ·show (0 : Int) < 1 /\ ((ws.length : Int) + 1) * 24 <= 140737488355328
   omega
  ·show (0 : Int) < 1 /\ ((vs.length : Int) + 1) * 24 <= 140737488355328
   omega
  refine ih ⟨i + 1, ws ++ [cReq (l.getD i c0)], vs ++ [cLim (l.getD i c0)]⟩ ren34 ⟨by dsimp only; omega, ?_, ?_⟩ (by dsimp only; omega) (by rfl) ⟨⟨rfl, hw8⟩, iR, iR, push_imp shVe (some 6) 3 ws (cReq (l.getD i c0)), push_imp shVe (some 7) 3 vs (cLim (l.getD i c0)), iR, iR, trivial⟩ ⟨iR, iR, ⟨rfl, rfl⟩, ⟨rfl, rfl⟩, trivial⟩
  ·show ws ++ _ = (l.take (i + 1)).map cReq
   rw [take_map cReq hi2, hw]
  ·show vs ++ _ = (l.take (i + 1)).map cLim
   rw [take_map cLim hi2, hv]
 ·have h : ¬ (i : Int) < (l.length : Int) := of_decide_eq_false h
  have e : i = l.length := by omega
  rw [e, List.take_length] at hw hv
  have e1 : (rdL shV.rd (fun _ => (ws.length : Int)) fun j => shVe.mk fun _ => (ws : List shVe.val).getD (j ()).toNat shVe.dflt) = l.map cReq := (rdL_mkL shV ws).trans hw
  have e2 : (rdL shV.rd (fun _ => (vs.length : Int)) fun j => shVe.mk fun _ => (vs : List shVe.val).getD (j ()).toNat shVe.dflt) = l.map cLim := (rdL_mkL shV vs).trans hv
  have l1 : (rdL shV.rd (fun _ => (ws.length : Int)) fun j => shVe.mk fun _ => (ws : List shVe.val).getD (j ()).toNat shVe.dflt).length < 9223372036854775807 := by
   rw [rdL_len]; show ((ws.length : Nat) : Int).toNat < _; omega
  have l2 : (rdL shV.rd (fun _ => (vs.length : Int)) fun j => shVe.mk fun _ => (vs : List shVe.val).getD (j ()).toNat shVe.dflt).length < 9223372036854775807 := by
   rw [rdL_len]; show ((vs.length : Nat) : Int).toNat < _; omega
  refine ⟨⟨l1, fun j => fits_of_mk shV _, l2, fun j => fits_of_mk shV _, trivial⟩, fun h1 => ⟨⟨(by show drawOK _ _ = true; decide +kernel), trivial⟩, rfl, ?_⟩, fun h1 => ⟨⟨(by show drawOK _ _ = true; decide +kernel), trivial⟩, rfl, ?_⟩⟩
  all_goals
   refine ⟨⟨⟨rfl, congrArg (fun q : List shV.val => ((sumL q (0, 0, 0)).getD (0, 0, 0)).1) e1⟩, ⟨rfl, congrArg (fun q : List shV.val => ((sumL q (0, 0, 0)).getD (0, 0, 0)).2.1) e1⟩, ⟨rfl, congrArg (fun q : List shV.val => ((sumL q (0, 0, 0)).getD (0, 0, 0)).2.2) e1⟩, rfl⟩, ⟨⟨rfl, congrArg (fun q : List shV.val => ((sumL q (0, 0, 0)).getD (0, 0, 0)).1) e2⟩, ⟨rfl, congrArg (fun q : List shV.val => ((sumL q (0, 0, 0)).getD (0, 0, 0)).2.1) e2⟩, ⟨rfl, congrArg (fun q : List shV.val => ((sumL q (0, 0, 0)).getD (0, 0, 0)).2.2) e2⟩, rfl⟩, ?_, rfl⟩
  ·have h1 : (sumL2 (l.map cReq)).isSome = true := (congrArg (fun q : List shV.val => (sumL q (0, 0, 0)).isSome) e1).symm.trans h1
   have h2 := congrArg (fun q : List shV.val => (sumL q (0, 0, 0)).isSome) e2
   refine h2.trans ?_
   show (sumL2 (l.map cLim)).isSome = sumsB l
   unfold sumsB
   rw [h1, Bool.true_and]
  ·have h1 : (sumL2 (l.map cReq)).isSome = false := (congrArg (fun q : List shV.val => (sumL q (0, 0, 0)).isSome) e1).symm.trans h1
   show sumsB l = false
   unfold sumsB
   rw [h1]; rfl
noncomputable def Fs4 : Table := addS 59 (.cons (.slice 10 shC) (.cons (.slice 10 shC) .nil)) (fun l m => (.bool fun _ => csB (l ()) (m ()), [fun _ => List.length (α := CV) (l ()) <= 9223372036854775807])) (addS 45 (.cons shP .nil) (fun nm pr po l => (.tuple (.cons (.agg (.cons (.int .i64 fun _ => ((sumL2 (List.map (α := CV) cReq (l ()))).getD (0, 0, 0)).1) (.cons (.int .i64 fun _ => ((sumL2 (List.map (α := CV) cReq (l ()))).getD (0, 0, 0)).2.1) (.cons (.int .i64 fun _ => ((sumL2 (List.map (α := CV) cReq (l ()))).getD (0, 0, 0)).2.2) .nil)))) (.cons (.agg (.cons (.int .i64 fun _ => ((sumL2 (List.map (α := CV) cLim (l ()))).getD (0, 0, 0)).1) (.cons (.int .i64 fun _ => ((sumL2 (List.map (α := CV) cLim (l ()))).getD (0, 0, 0)).2.1) (.cons (.int .i64 fun _ => ((sumL2 (List.map (α := CV) cLim (l ()))).getD (0, 0, 0)).2.2) .nil)))) (.cons (.bool fun _ => sumsB (l ())) .nil))), [fun _ => List.length (α := CV) (l ()) <= 100000])) (addS 53 (.cons shP .nil) (fun nm pr po l => (.bool fun _ => podB (nm (), pr (), po (), l (), ()), [])) Fs3))
theorem Fs4_ok : TableOK Tryz.prog G0 Fs4 := addS_ok qf59.callable (fun l m h => equal_ok (l ()) (m ()) h.1) (addS_ok qf45.callable (fun nm pr po l h => rsums_ok (nm (), pr (), po (), l (), ()) h.1) (addS_ok qf53.callable (fun nm pr po l _ => pod_ok (nm (), pr (), po (), l (), ())) Fs3_ok))
def samB (p q : PoV) : Bool := decide (p.1 = q.1) && (p.2.1 == q.2.1) && (p.2.2.1 == q.2.2.1) && csB p.2.2.2.1 q.2.2.2.1
theorem samB_iff {p q : PoV} : samB p q = true ↔ p = q := by
 unfold samB
 simp only [Bool.and_eq_true, decide_eq_true_eq, csB_iff, beq_iff_eq]
 obtain ⟨a1, a2, a3, a4, _⟩ := p
 obtain ⟨b1, b2, b3, b4, _⟩ := q
 simp only [Prod.mk.injEq, and_true]
 constructor
 ·rintro ⟨⟨⟨h1, h2⟩, h3⟩, h4⟩; exact ⟨h1, h2, h3, h4⟩
 ·rintro ⟨h1, h2, h3, h4⟩; exact ⟨⟨⟨h1, h2⟩, h3⟩, h4⟩
theorem samB_no {p q : PoV} (h : p ≠ q) : samB p q = false := by
 cases hb : samB p q with
 | true => exact absurd (samB_iff.1 hb) h
 | false => rfl
theorem same_ok (p q : PoV) (hl : p.2.2.2.1.length <= 9223372036854775807) : PF 29 (.cons (podP p) (.cons (podP q) .nil)) (.bool fun _ => samB p q) := by
 refine tX qf29 Fs4_ok (.any) rfl ?_
 conv => arg 5; cbv
 have e1 := rd_list p.2.2.2.1
 have e2 := rd_list q.2.2.2.1
 have l1 : (rdL shC.rd (fun _ => (p.2.2.2.1.length : Int)) fun j => shC.mk fun _ => (p.2.2.2.1 : List shC.val).getD (j ()).toNat shC.dflt).length <= 9223372036854775807 := by
  rw [rdL_len]; show ((p.2.2.2.1.length : Nat) : Int).toNat <= _; omega
 refine ⟨fun h1 => ⟨fun h2 => ⟨fun h3 => ⟨⟨l1, fun j => fits_of_mk shC _, fun j => fits_of_mk shC _, trivial⟩, rfl, ?_⟩, fun h3 => ⟨rfl, ?_⟩⟩, fun h2 => ⟨rfl, ?_⟩⟩, fun h1 => ⟨rfl, ?_⟩⟩
 ·have h1 : decide (p.1 = q.1) = true := h1
  have h2 : (p.2.1 == q.2.1) = true := h2
  have h3 : (p.2.2.1 == q.2.2.1) = true := h3
  have hc : csB (rdL shC.rd (fun _ => (p.2.2.2.1.length : Int)) fun j => shC.mk fun _ => (p.2.2.2.1 : List shC.val).getD (j ()).toNat shC.dflt) (rdL shC.rd (fun _ => (q.2.2.2.1.length : Int)) fun j => shC.mk fun _ => (q.2.2.2.1 : List shC.val).getD (j ()).toNat shC.dflt) = csB p.2.2.2.1 q.2.2.2.1 := by
   exact (congrArg (fun x => csB x _) e1).trans (congrArg (fun x => csB p.2.2.2.1 x) e2)
  refine hc.trans ?_
  unfold samB
  rw [h1, h2, h3]; rfl
 ·have h3 : (p.2.2.1 == q.2.2.1) = false := h3
  show samB p q = false
  unfold samB
  rw [h3, Bool.and_false, Bool.false_and]
 ·have h2 : (p.2.1 == q.2.1) = false := h2
  show samB p q = false
  unfold samB
  rw [h2, Bool.and_false, Bool.false_and, Bool.false_and]
 ·have h1 : decide (p.1 = q.1) = false := h1
  show samB p q = false
  unfold samB
  rw [h1]; rfl
def rmA (l : List CV) (i : Nat) : Env := [(37, .int .i64 fun _ => (i : Int)), (36, .int .i64 fun _ => (l.length : Int)), (3, .ptr 1 0), (2, .ptr 0 0)]
def rmS (p q : PoV) : Store := [(0, .var (podP p)), (1, .var (podP q))]
theorem rsame_ok (p q : PoV) (hl : p.2.2.2.1.length <= 9223372036854775807) : PF 21 (.cons (podP p) (.cons (podP q) .nil)) (.bool fun _ => samB p q) := by
 obtain ⟨nm, pr, po, l, u⟩ := p
 obtain ⟨nm', pr', po', m, u'⟩ := q
 refine tX qf21 Fs4_ok (.any) rfl ?_
 conv => arg 5; cbv
 refine ⟨fun h1 => ⟨rfl, samB_no fun e => ?_⟩, fun h1 => ⟨fun h2 => ⟨rfl, samB_no fun e => ?_⟩, fun h2 => ⟨fun h3 => ⟨rfl, samB_no fun e => ?_⟩, fun h3 => ⟨fun h4 => ⟨rfl, samB_no fun e => ?_⟩, fun h4 => ?_⟩⟩⟩⟩
 ·have h1 : ¬ nm = nm' := of_decide_eq_true (p := ¬ nm = nm') h1
  exact h1 (congrArg (·.1) e)
 ·have h2 : (pr != pr') = true := h2
  rw [show pr = pr' from congrArg (·.2.1) e] at h2; simp at h2
 ·have h3 : (po != po') = true := h3
  rw [show po = po' from congrArg (·.2.2.1) e] at h3; simp at h3
 ·have h4 : ((l.length : Int) != (m.length : Int)) = true := h4
  rw [show l = m from congrArg (·.2.2.2.1) e] at h4; simp at h4
 have h1 : nm = nm' := by
  have h1 : ¬ ¬ nm = nm' := of_decide_eq_false (p := ¬ nm = nm') h1
  exact Decidable.not_not.1 h1
 have h2 : pr = pr' := by have h2 : (pr != pr') = false := h2; simpa using h2
 have h3 : po = po' := by have h3 : (po != po') = false := h3; simpa using h3
 have h4 : l.length = m.length := by
  have h4 : ((l.length : Int) != (m.length : Int)) = false := h4
  have : (l.length : Int) = (m.length : Int) := by simpa using h4
  omega
 refine run_inv (ι := Nat) (fun i => l.length - i) (fun i => i <= l.length /\ ∀ j, j < i -> l.getD j c0 = m.getD j c0) (rmA l) (fun _ => rmS (nm, pr, po, l, u) (nm', pr', po', m, u')) 2 0 (fun i => i) (by rfl) (by rfl) ⟨Nat.zero_le _, fun j hj => by omega⟩ ?_ ⟨iR, iR, iR, iR, trivial⟩ ⟨iR, iR, trivial⟩
 intro i hi ih
 refine bX Fs4_ok (.any) _ rfl ?_
 conv => arg 5; cbv
 have hi1 := hi.1
 refine ⟨fun h => ?_, fun h => ⟨rfl, samB_iff.2 ?_⟩⟩
 ·have h : (i : Int) < (l.length : Int) := of_decide_eq_true h
  have hi2 : i < l.length := by omega
  have hw : IntKind.i64.wrap ((i : Int) + 1) = ((i + 1 : Nat) : Int) := by
   have hl : l.length <= 9223372036854775807 := hl
   rw [IntWalk.i64_in _ ⟨by omega, by omega⟩]; omega
  refine ⟨⟨⟨Int.natCast_nonneg i, h⟩, ⟨Int.natCast_nonneg i, by show (i : Int) < (m.length : Int); omega⟩, (by show drawOK _ _ = true; decide +kernel), trivial⟩, fun g => ⟨rfl, samB_no fun e => ?_⟩, fun g => ?_⟩
  ·have g : (!ceq (l.getD i c0) (m.getD i c0)) = true := g
   rw [show l = m from congrArg (·.2.2.2.1) e, ceq_iff.2 rfl] at g; cases g
  ·have g : (!ceq (l.getD i c0) (m.getD i c0)) = false := g
   have g : ceq (l.getD i c0) (m.getD i c0) = true := by simpa using g
   refine ih (i + 1) (fun i => i) ⟨by omega, fun j hj => ?_⟩ (by omega) (by rfl) ⟨⟨rfl, hw⟩, iR, iR, iR, trivial⟩ ⟨iR, iR, trivial⟩
   by_cases ej : j < i
   ·exact hi.2 j ej
   ·obtain rfl : j = i := by omega
    exact ceq_iff.1 g
 ·have h : ¬ (i : Int) < (l.length : Int) := of_decide_eq_false h
  rw [h1, h2, h3, list_eq.2 ⟨h4, fun j hj => hi.2 j (by omega)⟩]
def poA2 (p : PoV) (i j : Nat) : Env := [(62, .int .i64 fun _ => (j : Int)), (61, .int .i64 fun _ => (i : Int) - 0), (60, .slice none 10 (fun _ => (i : Int) - 0) fun j => shC.mk fun _ => (p.2.2.2.1 : List shC.val).getD (0 + j ()).toNat shC.dflt), (49, .int .i64 fun _ => (i : Int)), (48, .int .i64 fun _ => (p.2.2.2.1.length : Int)), (47, Sh.mkL 10 shC fun _ => p.2.2.2.1), (4, .ptr 1 0), (3, .int .i64 fun _ => (i : Int)), (1, .ptr 0 0), (0, podP p)]
def poS2 (p : PoV) (i : Nat) : Store := [(0, .var (podP p)), (1, .var (shC.mk fun _ => (p.2.2.2.1 : List CV).getD i c0))]
theorem rpod_ok (p : PoV) (hl : p.1.size <= 9223372036854775807) (hc : ∀ c ∈ p.2.2.2.1, (c.1 : ByteArray).size <= 9223372036854775807) : PF 20 (.cons (podP p) .nil) (.bool fun _ => podB p) := by
 obtain ⟨nm, pr, po, l, u⟩ := p
 refine tX qf20 Fs4_ok (.any) rfl ?_
 conv => arg 5; cbv
 refine ⟨⟨hl, trivial⟩, fun h1 => ⟨rfl, podB_no fun k => ?_⟩, fun h1 => ⟨fun h2 => ⟨rfl, podB_no fun k => ?_⟩, fun h2 => ⟨fun h3 => ⟨rfl, podB_no fun k => ?_⟩, fun h3 => ⟨fun h4 => ⟨rfl, podB_no fun k => ?_⟩, fun h4 => ⟨fun h5 => ⟨rfl, podB_no fun k => ?_⟩, fun h5 => ⟨fun h6 => ⟨rfl, podB_no fun k => ?_⟩, fun h6 => ⟨fun h7 => ⟨rfl, podB_no fun k => ?_⟩, fun h7 => ?_⟩⟩⟩⟩⟩⟩⟩
 ·have h1 : (!nameB nm) = true := h1
  rw [k.1] at h1; cases h1
 ·have h2 : pr < -1000 := of_decide_eq_true h2
  have := k.2.1; omega
 ·have h3 : 1000 < pr := of_decide_eq_true h3
  have := k.2.1; omega
 ·have h4 : po < 0 := of_decide_eq_true h4
  have := k.2.2.1; omega
 ·have h5 : 2 < po := of_decide_eq_true h5
  have := k.2.2.1; omega
 ·have h6 : (l.length : Int) < 1 := of_decide_eq_true h6
  have := k.2.2.2.1; omega
 ·have h7 : 6 < (l.length : Int) := of_decide_eq_true h7
  have := k.2.2.2.1; omega
 have h1 : nameB nm = true := by have h1 : (!nameB nm) = false := h1; simpa using h1
 have h2 : ¬ pr < -1000 := of_decide_eq_false h2
 have h3 : ¬ 1000 < pr := of_decide_eq_false h3
 have h4 : ¬ po < 0 := of_decide_eq_false h4
 have h5 : ¬ 2 < po := of_decide_eq_false h5
 have h6 : ¬ (l.length : Int) < 1 := of_decide_eq_false h6
 have h7 : ¬ 6 < (l.length : Int) := of_decide_eq_false h7
 refine run_inv (ι := Nat) (fun i => l.length - i) (fun i => i <= l.length /\ ∀ j, j < i -> findC l (l.getD j c0).1 = (j : Int) /\ contB (l.getD j c0) = true) (poA (nm, pr, po, l, u)) (fun _ => poS (nm, pr, po, l, u)) 1 0 (fun i => i) (by rfl) (by rfl) ⟨Nat.zero_le _, fun j hj => by omega⟩ ?_ ⟨iR, iR, iR, iR, iR, trivial⟩ ⟨iR, trivial⟩
 intro i hi ih
 refine bX Fs4_ok (.any) _ rfl ?_
 conv => arg 5; cbv
 have e := rd_list l
 have l1 : (rdL shC.rd (fun _ => (l.length : Int)) fun j => shC.mk fun _ => (l : List shC.val).getD (j ()).toNat shC.dflt).length <= 100000 := by
  rw [rdL_len]; show ((l.length : Nat) : Int).toNat <= _; omega
 have hi1 := hi.1
 refine ⟨fun h => ?_, fun h => ?_⟩
 ·have h : (i : Int) < (l.length : Int) := of_decide_eq_true h
  have hi2 : i < l.length := by omega
  have hw : IntKind.i64.wrap ((i : Int) + 1) = ((i + 1 : Nat) : Int) := by rw [IntWalk.i64_in _ ⟨by omega, by omega⟩]; omega
  have hci : (l.getD i c0).1.size <= 9223372036854775807 := hc _ (by rw [List.getD_eq_getElem?_getD, List.getElem?_eq_getElem hi2]; exact List.getElem_mem hi2)
  refine ⟨⟨⟨Int.natCast_nonneg i, h⟩, hci, trivial⟩, fun g2 => ⟨rfl, podB_no fun k => ?_⟩, fun g2 => ⟨⟨⟨Int.natCast_nonneg i, by show (i : Int) <= (l.length : Int); omega⟩, trivial⟩, ?_⟩⟩
  ·have g2 : (!contB (l.getD i c0)) = true := g2
   rw [(k.2.2.2.2.1 i hi2).2] at g2
   cases g2
  have g2 : (!contB (l.getD i c0)) = false := g2
  have g2 : contB (l.getD i c0) = true := by simpa using g2
  refine run_inv (ι := Nat) (fun j => i - j) (fun j => j <= i /\ ∀ q, q < j -> (l.getD q c0).1 ≠ (l.getD i c0).1) (poA2 (nm, pr, po, l, u) i) (fun _ => poS2 (nm, pr, po, l, u) i) 2 0 (fun i => i) (by rfl) (by rfl) ⟨Nat.zero_le _, fun j hj => by omega⟩ ?_ ⟨iR, iR, iR, iR, iR, iR, iR, iR, iR, iR, trivial⟩ ⟨iR, iR, trivial⟩
  intro j hj ih2
  refine bX Fs4_ok (.any) _ rfl ?_
  conv => arg 5; cbv
  have hj1 := hj.1
  have hz : (0 + (j : Int)).toNat = j := by omega
  refine ⟨fun k1 => ⟨⟨⟨Int.natCast_nonneg j, of_decide_eq_true k1⟩, trivial⟩, fun k2 => ⟨rfl, podB_no fun k => ?_⟩, fun k2 => ?_⟩, fun k1 => ?_⟩
  ·have k1 : (j : Int) < (i : Int) - 0 := of_decide_eq_true k1
   have k2 : (l.getD i c0).1 = (l.getD (0 + (j : Int)).toNat c0).1 := of_decide_eq_true k2
   rw [hz] at k2
   have f1 := (k.2.2.2.2.1 i hi2).1
   have f2 := (k.2.2.2.2.1 j (by omega)).1
   have f1 : findC l (l.getD i c0).1 = (i : Int) := f1
   have f2 : findC l (l.getD j c0).1 = (j : Int) := f2
   rw [k2, f2] at f1
   omega
  ·have k1 : (j : Int) < (i : Int) - 0 := of_decide_eq_true k1
   have k2 : ¬ (l.getD i c0).1 = (l.getD (0 + (j : Int)).toNat c0).1 := of_decide_eq_false k2
   rw [hz] at k2
   have hwj : IntKind.i64.wrap ((j : Int) + 1) = ((j + 1 : Nat) : Int) := by rw [IntWalk.i64_in _ ⟨by omega, by omega⟩]; omega
   refine ih2 (j + 1) (fun i => i) ⟨by omega, fun q hq => ?_⟩ (by omega) (by rfl) ⟨⟨rfl, hwj⟩, iR, iR, iR, iR, iR, iR, iR, iR, iR, trivial⟩ ⟨iR, iR, trivial⟩
   by_cases eq : q < j
   ·exact hj.2 q eq
   ·obtain rfl : q = j := by omega
    exact fun e => k2 e.symm
  ·have k1 : ¬ (j : Int) < (i : Int) - 0 := of_decide_eq_false k1
   have hj2 : ∀ q, q < i -> (l.getD q c0).1 ≠ (l.getD i c0).1 := fun q hq => hj.2 q (by omega)
   refine ih (i + 1) (fun i => i) ⟨by omega, fun q hq => ?_⟩ (by omega) (by rfl) ⟨⟨rfl, hw⟩, iR, iR, iR, iR, trivial⟩ ⟨iR, trivial⟩
   by_cases eq : q < i
   ·exact hi.2 q eq
   ·obtain rfl : q = i := by omega
    exact ⟨findC_at hi2 hj2 rfl, g2⟩
 ·have h : ¬ (i : Int) < (l.length : Int) := of_decide_eq_false h
  have hall : ∀ j, j < l.length -> findC l (l.getD j c0).1 = (j : Int) /\ contB (l.getD j c0) = true := fun j hj => hi.2 j (by omega)
  refine ⟨⟨l1, fun j => fits_of_mk shC _, trivial⟩, rfl, ?_⟩
  refine (congrArg sumsB e).trans ?_
  rw [Bool.eq_iff_iff, podB_iff]
  exact ⟨fun k => ⟨h1, by omega, by omega, by omega, hall, k⟩, fun k => k.2.2.2.2.2⟩
noncomputable def Fq0 : Table := addS 29 (.cons shP (.cons shP .nil)) (fun nm pr po l nm' pr' po' l' => (.bool fun _ => samB (nm (), pr (), po (), l (), ()) (nm' (), pr' (), po' (), l' (), ()), [fun _ => List.length (α := CV) (l ()) <= 9223372036854775807])) (addS 21 (.cons shP (.cons shP .nil)) (fun nm pr po l nm' pr' po' l' => (.bool fun _ => samB (nm (), pr (), po (), l (), ()) (nm' (), pr' (), po' (), l' (), ()), [fun _ => List.length (α := CV) (l ()) <= 9223372036854775807])) (addS 20 (.cons shP .nil) (fun nm pr po l => (.bool fun _ => podB (nm (), pr (), po (), l (), ()), [fun _ => ByteArray.size (nm ()) <= 9223372036854775807, fun _ => ∀ c ∈ (l () : List CV), ByteArray.size c.1 <= 9223372036854775807])) Fs4))
theorem Fq0_ok : TableOK Tryz.prog G0 Fq0 := addS_ok qf29.callable (fun nm pr po l nm' pr' po' l' h => same_ok (nm (), pr (), po (), l (), ()) (nm' (), pr' (), po' (), l' (), ()) h.1) (addS_ok qf21.callable (fun nm pr po l nm' pr' po' l' h => rsame_ok (nm (), pr (), po (), l (), ()) (nm' (), pr' (), po' (), l' (), ()) h.1) (addS_ok qf20.callable (fun nm pr po l h => rpod_ok (nm (), pr (), po (), l (), ()) h.1 h.2.1) Fs4_ok))
def hP (c : HV) : PV := shH.mk fun _ => c
theorem change_ok (c : HV) : PF 57 (.cons (hP c) .nil) (.bool fun _ => chB c) := by
 obtain ⟨s, ⟨a, b, g, _⟩, ⟨d, e, f, _⟩, _⟩ := c
 refine tX qf57 Fq0_ok (.any) rfl ?_
 conv => arg 5; cbv
 refine ⟨fun h1 => ⟨fun h2 => ⟨rfl, ?_⟩, fun h2 => ⟨rfl, ?_⟩⟩, fun h1 => ⟨rfl, ?_⟩⟩
 ·have h1 : nameB s = true := h1
  have h2 : vvB (a, b, g, ()) = true := h2
  show vvB (d, e, f, ()) = (nameB s && vvB (a, b, g, ()) && vvB (d, e, f, ()))
  rw [h1, h2]; rfl
 ·have h1 : nameB s = true := h1
  have h2 : vvB (a, b, g, ()) = false := h2
  show (nameB s && vvB (a, b, g, ()) && vvB (d, e, f, ())) = false
  rw [h1, h2]; rfl
 ·have h1 : nameB s = false := h1
  show (nameB s && vvB (a, b, g, ()) && vvB (d, e, f, ())) = false
  rw [h1]; rfl
noncomputable def Fq1 : Table := addS 57 (.cons shH .nil) (fun s a b g d e f => (.bool fun _ => chB (s (), (a (), b (), g (), ()), (d (), e (), f (), ()), ()), [])) Fq0
theorem Fq1_ok : TableOK Tryz.prog G0 Fq1 := addS_ok qf57.callable (fun s a b g d e f _ => change_ok (s (), (a (), b (), g (), ()), (d (), e (), f (), ()), ())) Fq0_ok
noncomputable def Bq0 : BTable := (addI 56 (ctx Tryz.f56) (mkM Fq1 emptyS) (callB emptyB) false (body Tryz.f56) 60 (addI 58 (ctx Tryz.f58) (mkM Fq1 emptyS) (callB emptyB) false (body Tryz.f58) 60 emptyB))
theorem Bq0_ok : BTableOK Tryz.prog G0 Bq0 := (addI_ok qf56 (mkM_ok Fq1_ok emptyS_ok) (callB_ok emptyB_ok) (addI_ok qf58 (mkM_ok Fq1_ok emptyS_ok) (callB_ok emptyB_ok) emptyB_ok))
def ixH (l : List HV) (i : Nat) : Env := [(8, .int .i64 fun _ => (i : Int)), (7, .int .i64 fun _ => (l.length : Int)), (0, Sh.mkL 7 shH fun _ => l), (1, .func (.func 56) .nil .nil)]
theorem bad_ok (l : List HV) (hl : l.length <= 9223372036854775807) : SFun Tryz.prog G0 79 (.cons (Sh.mkL 7 shH fun _ => l) (.cons (.func (.func 56) .nil .nil) .nil)) [] 0 (QR 0 (.int .i64 fun _ => badH l) []) := by
 refine qf79.streeB (mkM_ok Fq1_ok emptyS_ok) (callB_ok Bq0_ok) false 60 (.any) rfl ?_
 conv => arg 5; cbv
 refine run_inv (ι := Nat) (fun i => l.length - i) (fun i => i <= l.length /\ ∀ j, j < i -> chB (l.getD j h0) = true) (ixH l) (fun _ => []) 0 0 (fun i => i) (by rfl) (by rfl) ⟨by omega, fun j hj => by omega⟩ ?_ ⟨iR, iR, iR, iR, trivial⟩ trivial
 intro i hi ih
 refine exploreB_ok (by first | exact ok _ | exact (ok _).at _ | exact (ok _).round _) (mkM_ok Fq1_ok emptyS_ok) (callB_ok Bq0_ok) (u := false) 60 (.any) _ rfl ?_
 conv => arg 5; cbv
 refine ⟨fun h => ?_, fun h => ⟨fun i => i, rfl, rfl, trivial, ⟨rfl, (badH_none fun j hj => hi.2 j ?_).symm⟩⟩⟩
 ·have h : (i : Int) < (l.length : Int) := of_decide_eq_true h
  have hi2 : i < l.length := by omega
  have hw : IntKind.i64.wrap ((i : Int) + 1) = ((i + 1 : Nat) : Int) := by rw [IntWalk.i64_in _ ⟨by omega, by omega⟩]; omega
  refine ⟨⟨⟨Int.natCast_nonneg i, h⟩, trivial⟩, fun h2 => ⟨fun i => i, rfl, rfl, trivial, ⟨rfl, ?_⟩⟩, fun h2 => ?_⟩
  ·have h2 : (!chB (l.getD i h0)) = true := h2
   exact (badH_at hi2 hi.2 (by simpa using h2)).symm
  ·have h2 : (!chB (l.getD i h0)) = false := h2
   refine ih (i + 1) (fun i => i) ⟨by omega, fun j hj => ?_⟩ (by omega) (by rfl) ⟨⟨rfl, hw⟩, iR, iR, iR, trivial⟩ trivial
   by_cases ej : j < i
   ·exact hi.2 j ej
   ·obtain rfl : j = i := by omega
    simpa using h2
 ·have h : ¬ (i : Int) < (l.length : Int) := of_decide_eq_false h
  omega
def heq (c d : HV) : Bool := decide (c.1 = d.1) && (veq c.2.1 d.2.1 && (veq c.2.2.1 d.2.2.1 && true))
theorem heq_iff {c d : HV} : heq c d = true ↔ c = d := by
 unfold heq
 simp only [Bool.and_eq_true, decide_eq_true_eq, veq_iff, and_true]
 obtain ⟨a1, a2, a3, _⟩ := c
 obtain ⟨b1, b2, b3, _⟩ := d
 simp
theorem hlist_eq {l m : List HV} : l = m ↔ l.length = m.length /\ ∀ j, j < l.length -> l.getD j h0 = m.getD j h0 := by
 constructor
 ·rintro rfl; exact ⟨rfl, fun _ _ => rfl⟩
 ·rintro ⟨h1, h2⟩
  apply List.ext_getElem h1
  intro j k1 k2
  have := h2 j k1
  rwa [List.getD_eq_getElem?_getD, List.getD_eq_getElem?_getD, List.getElem?_eq_getElem k1, List.getElem?_eq_getElem k2] at this
def hsB (l m : List HV) : Bool := decide (l.length = m.length) && (List.range l.length).all fun j => heq (l.getD j h0) (m.getD j h0)
theorem hsB_iff {l m : List HV} : hsB l m = true ↔ l = m := by
 unfold hsB
 simp only [Bool.and_eq_true, decide_eq_true_eq, List.all_eq_true, List.mem_range, heq_iff]
 exact hlist_eq.symm
theorem hsB_no {l m : List HV} (h : l ≠ m) : hsB l m = false := by
 cases hb : hsB l m with
 | true => exact absurd (hsB_iff.1 hb) h
 | false => rfl
def eqH (l m : List HV) (i : Nat) : Env := [(13, .int .i64 fun _ => (i : Int)), (12, .int .i64 fun _ => (l.length : Int)), (0, Sh.mkL 7 shH fun _ => l), (1, Sh.mkL 7 shH fun _ => m)]
theorem hequal_ok (l m : List HV) (hl : l.length <= 9223372036854775807) : PF 30 (.cons (Sh.mkL 7 shH fun _ => l) (.cons (Sh.mkL 7 shH fun _ => m) .nil)) (.bool fun _ => hsB l m) := by
 refine tX qf30 Fq1_ok (.any) rfl ?_
 conv => arg 5; cbv
 refine ⟨fun h => ⟨rfl, hsB_no fun e => ?_⟩, fun h => ?_⟩
 ·have h : ((l.length : Int) != (m.length : Int)) = true := h
  rw [e] at h; simp at h
 have h : ((l.length : Int) != (m.length : Int)) = false := h
 have hlen : l.length = m.length := by
  have : (l.length : Int) = (m.length : Int) := by simpa using h
  omega
 refine run_inv (ι := Nat) (fun i => l.length - i) (fun i => i <= l.length /\ ∀ j, j < i -> l.getD j h0 = m.getD j h0) (eqH l m) (fun _ => []) 0 0 (fun i => i) (by rfl) (by rfl) ⟨Nat.zero_le _, fun j hj => by omega⟩ ?_ ⟨iR, iR, iR, iR, trivial⟩ trivial
 intro i hi ih
 refine bX Fq1_ok (.any) _ rfl ?_
 conv => arg 5; cbv
 refine ⟨fun h => ?_, fun h => ⟨rfl, hsB_iff.2 (hlist_eq.2 ⟨hlen, fun j hj => hi.2 j ?_⟩)⟩⟩
 ·have h : (i : Int) < (l.length : Int) := of_decide_eq_true h
  have hi2 : i < l.length := by omega
  have hw : IntKind.i64.wrap ((i : Int) + 1) = ((i + 1 : Nat) : Int) := by rw [IntWalk.i64_in _ ⟨by omega, by omega⟩]; omega
  refine ⟨⟨⟨Int.natCast_nonneg i, h⟩, ⟨Int.natCast_nonneg i, by show (i : Int) < (m.length : Int); omega⟩, (by show drawOK _ _ = true; decide +kernel), trivial⟩, fun g => ⟨rfl, hsB_no fun e => ?_⟩, fun g => ?_⟩
  ·have g : (!heq (l.getD i h0) (m.getD i h0)) = true := g
   rw [e, heq_iff.2 rfl] at g; cases g
  ·have g : (!heq (l.getD i h0) (m.getD i h0)) = false := g
   have g : heq (l.getD i h0) (m.getD i h0) = true := by simpa using g
   refine ih (i + 1) (fun i => i) ⟨by omega, fun j hj => ?_⟩ (by omega) (by rfl) ⟨⟨rfl, hw⟩, iR, iR, iR, trivial⟩ trivial
   by_cases ej : j < i
   ·exact hi.2 j ej
   ·obtain rfl : j = i := by omega
    exact heq_iff.1 g
 ·have h : ¬ (i : Int) < (l.length : Int) := of_decide_eq_false h
  omega
def badE (args : PV) (g : Sto) : Option SRes := match args with
 | .cons (.slice none 7 len f) (.cons (.func (.func k) .nil .nil) .nil) => bif beqN k 56 then some { ids := [], args := .cons (.slice none 7 len f) (.cons (.func (.func 56) .nil .nil) .nil), S := [], r := .int .i64 fun _ => badH (rdL shH.rd len f), W := [], C := [fun _ => (len ()).toNat <= 9223372036854775807, fun _ => ∀ j, shH.fits (f j)] } else none
 | _ => none
theorem badE_ok {args : PV} {g : Sto} {x : SRes} (h : badE args g = some x) : SGood Tryz.prog G0 79 args g x := by
 unfold badE at h
 split at h
 ·rename_i len f k
  cases hb : beqN k 56 with
  | false => rw [hb] at h; cases h
  | true =>
    obtain rfl : k = 56 := by simpa using hb
    rw [hb, cond_true] at h
    obtain rfl := Option.some.inj h
    refine ⟨fun hC => (bad_ok _ (Nat.le_trans (Nat.le_of_eq (rdL_len shH.rd len f)) hC.1)).args fun M ρ vs hr => ?_, iR, trivial⟩
    rcases hr with ⟨h', _⟩ | ⟨_, v, ws, rfl, h1, h2⟩
    · cases h'
    · exact .inr ⟨rfl, v, ws, rfl, raw_list hC.2.1 h1, h2⟩
 ·cases h
noncomputable def Hq0 : STable := addM 79 badE emptyS
theorem Hq0_ok : STableOK Tryz.prog G0 Hq0 := addM_ok (fun _ _ _ h => badE_ok h) emptyS_ok
noncomputable def Bq1 : BTable := (addI 55 (ctx Tryz.f55) (mkM Fq1 Hq0) (callB emptyB) false (body Tryz.f55) 60 Bq0)
theorem Bq1_ok : BTableOK Tryz.prog G0 Bq1 := (addI_ok qf55 (mkM_ok Fq1_ok Hq0_ok) (callB_ok emptyB_ok) Bq0_ok)
def fitsB (e : EV) : Bool :=
 if e.1 = 0 then podB e.2.1
 else if e.1 = 1 then nameB e.2.2.1
 else if e.1 = 2 then nameB e.2.2.1 && decide (0 < (e.2.2.2.2.1.length : Int)) && decide ((e.2.2.2.2.1.length : Int) <= 6) && decide (badH e.2.2.2.2.1 < 0)
 else if e.1 = 3 then decide (0 <= e.2.2.2.2.2.1) && decide (e.2.2.2.2.2.1 <= 64)
 else if e.1 = 4 \/ e.1 = 5 then nameB e.2.2.1 && nameB e.2.2.2.1 && numB e.2.2.2.2.2.1
 else if e.1 = 6 \/ e.1 = 7 \/ e.1 = 8 then numB e.2.2.2.2.2.1
 else decide (e.1 = 9)
def p0 : PoV := (ByteArray.empty, 0, 0, [], ())
def bareE (e : EV) : EV := (e.1, if e.1 = 0 then e.2.1 else p0, if e.1 = 1 \/ e.1 = 2 \/ e.1 = 4 \/ e.1 = 5 then e.2.2.1 else ByteArray.empty, if e.1 = 4 \/ e.1 = 5 then e.2.2.2.1 else ByteArray.empty, if e.1 = 2 then e.2.2.2.2.1 else [], if 3 <= e.1 /\ e.1 <= 8 then e.2.2.2.2.2.1 else 0, ())
theorem bne0 {a b : Int} (h : (a == b) = false) : a ≠ b := by simpa using h
theorem evfits_ok (e : EV) (hl : e.2.2.2.2.1.length <= 9223372036854775807) : PF 27 (.cons (shE.mk fun _ => e) .nil) (.bool fun _ => fitsB e) := by
 obtain ⟨k, ⟨nm, pr, po, l, _⟩, s, c, hs, n, _⟩ := e
 refine qf27.treeB (mkM_ok Fq1_ok Hq0_ok) (callB_ok Bq1_ok) false 60 (.any) rfl ?_
 conv => arg 5; cbv
 have eC := rd_list l
 have eH : (rdL shH.rd (fun _ => (hs.length : Int)) fun j => shH.mk fun _ => (hs : List shH.val).getD (j ()).toNat shH.dflt) = hs := rdL_mkL shH hs
 refine ⟨fun h => ⟨⟨fun j => fits_of_mk shC _, trivial⟩, rfl, ?_⟩, fun g0 => ⟨fun h => ⟨rfl, ?_⟩, fun g1 => ⟨fun h => ⟨fun a => ⟨fun b => ⟨fun d => ⟨⟨?_, fun j => fits_of_mk shH _, trivial⟩, rfl, ?_⟩, fun d => ⟨rfl, ?_⟩⟩, fun b => ⟨rfl, ?_⟩⟩, fun a => ⟨rfl, ?_⟩⟩, fun g2 => ⟨fun h => ⟨fun a => ⟨rfl, ?_⟩, fun a => ⟨rfl, ?_⟩⟩, fun g3 => ⟨fun h => ⟨fun a => ⟨fun b => ⟨fun d => ⟨rfl, ?_⟩, fun d => ⟨rfl, ?_⟩⟩, fun b => ⟨rfl, ?_⟩⟩, fun a => ⟨rfl, ?_⟩⟩, fun g4 => ⟨fun h => ⟨fun a => ⟨fun b => ⟨fun d => ⟨rfl, ?_⟩, fun d => ⟨rfl, ?_⟩⟩, fun b => ⟨rfl, ?_⟩⟩, fun a => ⟨rfl, ?_⟩⟩, fun g5 => ⟨fun h => ⟨fun a => ⟨rfl, ?_⟩, fun a => ⟨rfl, ?_⟩⟩, fun g6 => ⟨fun h => ⟨fun a => ⟨rfl, ?_⟩, fun a => ⟨rfl, ?_⟩⟩, fun g7 => ⟨fun h => ⟨fun a => ⟨rfl, ?_⟩, fun a => ⟨rfl, ?_⟩⟩, fun g8 => ⟨rfl, ?_⟩⟩⟩⟩⟩⟩⟩⟩⟩⟩
 ·have h : (k == 0) = true := h
  obtain rfl : k = 0 := by simpa using h
  exact (congrArg (fun l => podB (nm, pr, po, l, ())) eC).trans rfl
 ·have h : (k == 1) = true := h
  obtain rfl : k = 1 := by simpa using h
  rfl
 ·show ((hs.length : Nat) : Int).toNat <= _
  rw [Int.toNat_natCast]; exact hl
 ·have h : (k == 2) = true := h
  obtain rfl : k = 2 := by simpa using h
  have a : nameB s = true := a
  have b : decide (0 < (hs.length : Int)) = true := b
  have d : decide ((hs.length : Int) <= 6) = true := d
  refine (congrArg (fun l => !decide (0 <= badH l)) eH).trans ?_
  show (!decide (0 <= badH hs)) = (nameB s && decide (0 < (hs.length : Int)) && decide ((hs.length : Int) <= 6) && decide (badH hs < 0))
  rw [a, b, d, Bool.true_and, Bool.true_and, Bool.true_and, <- decide_not]
  exact decide_eq_decide.2 (by omega)
 ·have h : (k == 2) = true := h
  obtain rfl : k = 2 := by simpa using h
  have d : decide ((hs.length : Int) <= 6) = false := d
  show (nameB s && decide (0 < (hs.length : Int)) && decide ((hs.length : Int) <= 6) && decide (badH hs < 0)) = false
  rw [d, Bool.and_false, Bool.false_and]
 ·have h : (k == 2) = true := h
  obtain rfl : k = 2 := by simpa using h
  have b : decide (0 < (hs.length : Int)) = false := b
  show (nameB s && decide (0 < (hs.length : Int)) && decide ((hs.length : Int) <= 6) && decide (badH hs < 0)) = false
  rw [b, Bool.and_false, Bool.false_and, Bool.false_and]
 ·have h : (k == 2) = true := h
  obtain rfl : k = 2 := by simpa using h
  have a : nameB s = false := a
  show (nameB s && decide (0 < (hs.length : Int)) && decide ((hs.length : Int) <= 6) && decide (badH hs < 0)) = false
  rw [a]; rfl
 ·have h : (k == 3) = true := h
  obtain rfl : k = 3 := by simpa using h
  have a : decide (0 <= n) = true := a
  show decide (n <= 64) = (decide (0 <= n) && decide (n <= 64))
  rw [a]; rfl
 ·have h : (k == 3) = true := h
  obtain rfl : k = 3 := by simpa using h
  have a : decide (0 <= n) = false := a
  show (decide (0 <= n) && decide (n <= 64)) = false
  rw [a]; rfl
 ·have h : (k == 4) = true := h
  obtain rfl : k = 4 := by simpa using h
  have a : nameB s = true := a
  have b : nameB c = true := b
  have d : decide (-1000 <= n) = true := d
  show decide (n <= 9007199254740992) = (nameB s && nameB c && (decide (-1000 <= n) && decide (n <= 9007199254740992)))
  rw [a, b, d]; rfl
 ·have h : (k == 4) = true := h
  obtain rfl : k = 4 := by simpa using h
  have d : decide (-1000 <= n) = false := d
  show (nameB s && nameB c && (decide (-1000 <= n) && decide (n <= 9007199254740992))) = false
  rw [d, Bool.false_and, Bool.and_false]
 ·have h : (k == 4) = true := h
  obtain rfl : k = 4 := by simpa using h
  have b : nameB c = false := b
  show (nameB s && nameB c && (decide (-1000 <= n) && decide (n <= 9007199254740992))) = false
  rw [b, Bool.and_false, Bool.false_and]
 ·have h : (k == 4) = true := h
  obtain rfl : k = 4 := by simpa using h
  have a : nameB s = false := a
  show (nameB s && nameB c && (decide (-1000 <= n) && decide (n <= 9007199254740992))) = false
  rw [a]; rfl
 ·have h : (k == 5) = true := h
  obtain rfl : k = 5 := by simpa using h
  have a : nameB s = true := a
  have b : nameB c = true := b
  have d : decide (-1000 <= n) = true := d
  show decide (n <= 9007199254740992) = (nameB s && nameB c && (decide (-1000 <= n) && decide (n <= 9007199254740992)))
  rw [a, b, d]; rfl
 ·have h : (k == 5) = true := h
  obtain rfl : k = 5 := by simpa using h
  have d : decide (-1000 <= n) = false := d
  show (nameB s && nameB c && (decide (-1000 <= n) && decide (n <= 9007199254740992))) = false
  rw [d, Bool.false_and, Bool.and_false]
 ·have h : (k == 5) = true := h
  obtain rfl : k = 5 := by simpa using h
  have b : nameB c = false := b
  show (nameB s && nameB c && (decide (-1000 <= n) && decide (n <= 9007199254740992))) = false
  rw [b, Bool.and_false, Bool.false_and]
 ·have h : (k == 5) = true := h
  obtain rfl : k = 5 := by simpa using h
  have a : nameB s = false := a
  show (nameB s && nameB c && (decide (-1000 <= n) && decide (n <= 9007199254740992))) = false
  rw [a]; rfl
 ·have h : (k == 6) = true := h
  obtain rfl : k = 6 := by simpa using h
  have a : decide (-1000 <= n) = true := a
  show decide (n <= 9007199254740992) = (decide (-1000 <= n) && decide (n <= 9007199254740992))
  rw [a]; rfl
 ·have h : (k == 6) = true := h
  obtain rfl : k = 6 := by simpa using h
  have a : decide (-1000 <= n) = false := a
  show (decide (-1000 <= n) && decide (n <= 9007199254740992)) = false
  rw [a]; rfl
 ·have h : (k == 7) = true := h
  obtain rfl : k = 7 := by simpa using h
  have a : decide (-1000 <= n) = true := a
  show decide (n <= 9007199254740992) = (decide (-1000 <= n) && decide (n <= 9007199254740992))
  rw [a]; rfl
 ·have h : (k == 7) = true := h
  obtain rfl : k = 7 := by simpa using h
  have a : decide (-1000 <= n) = false := a
  show (decide (-1000 <= n) && decide (n <= 9007199254740992)) = false
  rw [a]; rfl
 ·have h : (k == 8) = true := h
  obtain rfl : k = 8 := by simpa using h
  have a : decide (-1000 <= n) = true := a
  show decide (n <= 9007199254740992) = (decide (-1000 <= n) && decide (n <= 9007199254740992))
  rw [a]; rfl
 ·have h : (k == 8) = true := h
  obtain rfl : k = 8 := by simpa using h
  have a : decide (-1000 <= n) = false := a
  show (decide (-1000 <= n) && decide (n <= 9007199254740992)) = false
  rw [a]; rfl
 ·have n0 : k ≠ 0 := bne0 g0
  have n1 : k ≠ 1 := bne0 g1
  have n2 : k ≠ 2 := bne0 g2
  have n3 : k ≠ 3 := bne0 g3
  have n4 : k ≠ 4 := bne0 g4
  have n5 : k ≠ 5 := bne0 g5
  have n6 : k ≠ 6 := bne0 g6
  have n7 : k ≠ 7 := bne0 g7
  have n8 : k ≠ 8 := bne0 g8
  show (k == 9) = fitsB (k, (nm, pr, po, l, ()), s, c, hs, n, ())
  unfold fitsB
  dsimp only
  rw [if_neg n0, if_neg n1, if_neg n2, if_neg n3, if_neg (by omega), if_neg (by omega)]
  rfl
theorem bare_ok (e : EV) : PF 28 (.cons (shE.mk fun _ => e) .nil) (shE.mk fun _ => bareE e) := by
 obtain ⟨k, ⟨nm, pr, po, l, ⟨⟩⟩, s, c, hs, n, ⟨⟩⟩ := e
 refine qf28.treeB (mkM_ok Fq1_ok emptyS_ok) (callB_ok Bq0_ok) false 60 (.any) rfl ?_
 conv => arg 5; cbv
 refine ⟨fun h => ?_, fun g0 => ⟨fun h => ?_, fun g1 => ⟨fun h => ⟨⟨(by show drawOK _ _ = true; decide +kernel), trivial⟩, ?_⟩, fun g2 => ⟨fun h => ⟨⟨(by show drawOK _ _ = true; decide +kernel), trivial⟩, ?_⟩, fun g4 => ⟨fun h => ⟨⟨(by show drawOK _ _ = true; decide +kernel), trivial⟩, ?_⟩, fun g5 => ⟨fun h => ?_, fun g3 => ⟨fun h => ?_, fun g6 => ⟨fun h => ?_, fun g7 => ⟨fun h => ?_, fun g8 => ?_⟩⟩⟩⟩⟩⟩⟩⟩⟩
 ·have h : (k == 0) = true := h
  obtain rfl : k = 0 := by simpa using h
  refine ⟨rfl, ⟨rfl, ?_⟩, ⟨?_, ⟨rfl, ?_⟩, ⟨rfl, ?_⟩, ?_, rfl⟩, ?_, ?_, ?_, ⟨rfl, ?_⟩, rfl⟩ <;> first | rfl | exact iR | fail
 ·have h : (k == 1) = true := h
  obtain rfl : k = 1 := by simpa using h
  refine ⟨rfl, ⟨rfl, ?_⟩, ⟨?_, ⟨rfl, ?_⟩, ⟨rfl, ?_⟩, ?_, rfl⟩, ?_, ?_, ?_, ⟨rfl, ?_⟩, rfl⟩ <;> first | rfl | exact iR | fail
 ·have h : (k == 2) = true := h
  obtain rfl : k = 2 := by simpa using h
  refine ⟨rfl, ⟨rfl, ?_⟩, ⟨?_, ⟨rfl, ?_⟩, ⟨rfl, ?_⟩, ?_, rfl⟩, ?_, ?_, ?_, ⟨rfl, ?_⟩, rfl⟩ <;> first | rfl | exact iR | fail
 ·have h : (k == 4) = true := h
  obtain rfl : k = 4 := by simpa using h
  refine ⟨rfl, ⟨rfl, ?_⟩, ⟨?_, ⟨rfl, ?_⟩, ⟨rfl, ?_⟩, ?_, rfl⟩, ?_, ?_, ?_, ⟨rfl, ?_⟩, rfl⟩ <;> first | rfl | exact iR | fail
 ·have h : (k == 5) = true := h
  obtain rfl : k = 5 := by simpa using h
  refine ⟨rfl, ⟨rfl, ?_⟩, ⟨?_, ⟨rfl, ?_⟩, ⟨rfl, ?_⟩, ?_, rfl⟩, ?_, ?_, ?_, ⟨rfl, ?_⟩, rfl⟩ <;> first | rfl | exact iR | fail
 ·have h : (k == 3) = true := h
  obtain rfl : k = 3 := by simpa using h
  refine ⟨rfl, ⟨rfl, ?_⟩, ⟨?_, ⟨rfl, ?_⟩, ⟨rfl, ?_⟩, ?_, rfl⟩, ?_, ?_, ?_, ⟨rfl, ?_⟩, rfl⟩ <;> first | rfl | exact iR | fail
 ·have h : (k == 6) = true := h
  obtain rfl : k = 6 := by simpa using h
  refine ⟨rfl, ⟨rfl, ?_⟩, ⟨?_, ⟨rfl, ?_⟩, ⟨rfl, ?_⟩, ?_, rfl⟩, ?_, ?_, ?_, ⟨rfl, ?_⟩, rfl⟩ <;> first | rfl | exact iR | fail
 ·have h : (k == 7) = true := h
  obtain rfl : k = 7 := by simpa using h
  refine ⟨rfl, ⟨rfl, ?_⟩, ⟨?_, ⟨rfl, ?_⟩, ⟨rfl, ?_⟩, ?_, rfl⟩, ?_, ?_, ?_, ⟨rfl, ?_⟩, rfl⟩ <;> first | rfl | exact iR | fail
 ·have h : (k == 8) = true := h
  obtain rfl : k = 8 := by simpa using h
  refine ⟨rfl, ⟨rfl, ?_⟩, ⟨?_, ⟨rfl, ?_⟩, ⟨rfl, ?_⟩, ?_, rfl⟩, ?_, ?_, ?_, ⟨rfl, ?_⟩, rfl⟩ <;> first | rfl | exact iR | fail
 ·have n0 : k ≠ 0 := bne0 g0
  have n1 : k ≠ 1 := bne0 g1
  have n2 : k ≠ 2 := bne0 g2
  have n3 : k ≠ 3 := bne0 g3
  have n4 : k ≠ 4 := bne0 g4
  have n5 : k ≠ 5 := bne0 g5
  have n6 : k ≠ 6 := bne0 g6
  have n7 : k ≠ 7 := bne0 g7
  have n8 : k ≠ 8 := bne0 g8
  have eb : bareE (k, (nm, pr, po, l, ()), s, c, hs, n, ()) = (k, p0, ByteArray.empty, ByteArray.empty, [], 0, ()) := by
   unfold bareE
   dsimp only
   rw [if_neg n0, if_neg (by omega), if_neg (by omega), if_neg n2, if_neg (by omega)]
  rw [eb]
  refine ⟨rfl, ⟨rfl, ?_⟩, ⟨?_, ⟨rfl, ?_⟩, ⟨rfl, ?_⟩, ?_, rfl⟩, ?_, ?_, ?_, ⟨rfl, ?_⟩, rfl⟩ <;> first | rfl | exact iR | fail
def evB (a b : EV) : Bool := (a.1 == b.1) && samB a.2.1 b.2.1 && decide (a.2.2.1 = b.2.2.1) && decide (a.2.2.2.1 = b.2.2.2.1) && hsB a.2.2.2.2.1 b.2.2.2.2.1 && (a.2.2.2.2.2.1 == b.2.2.2.2.2.1)
theorem evB_iff {a b : EV} : evB a b = true ↔ a = b := by
 unfold evB
 simp only [Bool.and_eq_true, decide_eq_true_eq, samB_iff, hsB_iff, beq_iff_eq]
 obtain ⟨a1, a2, a3, a4, a5, a6, _⟩ := a
 obtain ⟨b1, b2, b3, b4, b5, b6, _⟩ := b
 simp only [Prod.mk.injEq, and_true]
 constructor
 ·rintro ⟨⟨⟨⟨⟨h1, h2⟩, h3⟩, h4⟩, h5⟩, h6⟩; exact ⟨h1, h2, h3, h4, h5, h6⟩
 ·rintro ⟨h1, h2, h3, h4, h5, h6⟩; exact ⟨⟨⟨⟨⟨h1, h2⟩, h3⟩, h4⟩, h5⟩, h6⟩
noncomputable def Fq2 : Table := addS 30 (.cons (.slice 7 shH) (.cons (.slice 7 shH) .nil)) (fun l m => (.bool fun _ => hsB (l ()) (m ()), [fun _ => List.length (α := HV) (l ()) <= 9223372036854775807])) Fq1
theorem Fq2_ok : TableOK Tryz.prog G0 Fq2 := addS_ok qf30.callable (fun l m h => hequal_ok (l ()) (m ()) h.1) Fq1_ok
theorem esame_ok (a b : EV) (hl : a.2.1.2.2.2.1.length <= 9223372036854775807) (hh : a.2.2.2.2.1.length <= 9223372036854775807) : PF 11 (.cons (shE.mk fun _ => a) (.cons (shE.mk fun _ => b) .nil)) (.bool fun _ => evB a b) := by
 obtain ⟨k, ⟨nm, pr, po, l, ⟨⟩⟩, s, c, hs, n, ⟨⟩⟩ := a
 obtain ⟨k', ⟨nm', pr', po', l', ⟨⟩⟩, s', c', hs', n', ⟨⟩⟩ := b
 refine tX qf11 Fq2_ok (.any) rfl ?_
 conv => arg 5; cbv
 have e1 := rd_list l
 have e2 := rd_list l'
 have eH : ∀ hs : List HV, (rdL shH.rd (fun _ => (hs.length : Int)) fun j => shH.mk fun _ => (hs : List shH.val).getD (j ()).toNat shH.dflt) = hs := fun hs => rdL_mkL shH hs
 have l1 : (rdL shC.rd (fun _ => (l.length : Int)) fun j => shC.mk fun _ => (l : List shC.val).getD (j ()).toNat shC.dflt).length <= 9223372036854775807 := by
  rw [rdL_len]; show ((l.length : Nat) : Int).toNat <= _; rw [Int.toNat_natCast]; exact hl
 have l2 : (rdL shH.rd (fun _ => (hs.length : Int)) fun j => shH.mk fun _ => (hs : List shH.val).getD (j ()).toNat shH.dflt).length <= 9223372036854775807 := by
  rw [rdL_len]; show ((hs.length : Nat) : Int).toNat <= _; rw [Int.toNat_natCast]; exact hh
 have no : ∀ {X : Bool}, X = false -> (evB (k, (nm, pr, po, l, ()), s, c, hs, n, ()) (k', (nm', pr', po', l', ()), s', c', hs', n', ()) = true -> X = true) -> evB (k, (nm, pr, po, l, ()), s, c, hs, n, ()) (k', (nm', pr', po', l', ()), s', c', hs', n', ()) = false := by
  intro X hX hi
  cases hb : evB (k, (nm, pr, po, l, ()), s, c, hs, n, ()) (k', (nm', pr', po', l', ()), s', c', hs', n', ()) with
  | false => rfl
  | true => rw [hi hb] at hX; cases hX
 have es : samB (nm, pr, po, rdL shC.rd (fun _ => (l.length : Int)) fun j => shC.mk fun _ => (l : List shC.val).getD (j ()).toNat shC.dflt, ()) (nm', pr', po', rdL shC.rd (fun _ => (l'.length : Int)) fun j => shC.mk fun _ => (l' : List shC.val).getD (j ()).toNat shC.dflt, ()) = samB (nm, pr, po, l, ()) (nm', pr', po', l', ()) :=
  (congrArg (fun x => samB (nm, pr, po, x, ()) _) e1).trans (congrArg (fun x => samB (nm, pr, po, l, ()) (nm', pr', po', x, ())) e2)
 have eh : hsB (rdL shH.rd (fun _ => (hs.length : Int)) fun j => shH.mk fun _ => (hs : List shH.val).getD (j ()).toNat shH.dflt) (rdL shH.rd (fun _ => (hs'.length : Int)) fun j => shH.mk fun _ => (hs' : List shH.val).getD (j ()).toNat shH.dflt) = hsB hs hs' :=
  (congrArg (fun x => hsB x _) (eH hs)).trans (congrArg (fun x => hsB hs x) (eH hs'))
 refine ⟨fun h1 => ⟨⟨l1, fun j => fits_of_mk shC _, fun j => fits_of_mk shC _, trivial⟩, fun h2 => ⟨fun h3 => ⟨fun h4 => ⟨⟨l2, fun j => fits_of_mk shH _, fun j => fits_of_mk shH _, trivial⟩, fun h5 => ⟨rfl, ?_⟩, fun h5 => ⟨rfl, ?_⟩⟩, fun h4 => ⟨rfl, no h4 ?_⟩⟩, fun h3 => ⟨rfl, no h3 ?_⟩⟩, fun h2 => ⟨rfl, no h2 ?_⟩⟩, fun h1 => ⟨rfl, no h1 ?_⟩⟩
 ·have h2 := es.symm.trans h2
  have h5 := eh.symm.trans h5
  have h1 : (k == k') = true := h1
  have h3 : decide (s = s') = true := h3
  have h4 : decide (c = c') = true := h4
  show (n == n') = ((k == k') && samB (nm, pr, po, l, ()) (nm', pr', po', l', ()) && decide (s = s') && decide (c = c') && hsB hs hs' && (n == n'))
  rw [h1, h2, h3, h4, h5]; rfl
 ·have h5 : hsB hs hs' = false := eh.symm.trans h5
  exact no h5 fun e => hsB_iff.2 (congrArg (fun e : EV => e.2.2.2.2.1) (evB_iff.1 e))
 ·exact fun e => decide_eq_true (congrArg (fun e : EV => e.2.2.2.1) (evB_iff.1 e))
 ·exact fun e => decide_eq_true (congrArg (fun e : EV => e.2.2.1) (evB_iff.1 e))
 ·exact fun e => es.trans (samB_iff.2 (congrArg (fun e : EV => e.2.1) (evB_iff.1 e)))
 ·exact fun e => beq_iff_eq.2 (congrArg (fun e : EV => e.1) (evB_iff.1 e))
def rightB (e : EV) : Bool := fitsB e && evB e (bareE e)
noncomputable def Fq3 : Table := addS 27 (.cons shE .nil) (fun k nm pr po l s c hs n => (.bool fun _ => fitsB (k (), (nm (), pr (), po (), l (), ()), s (), c (), hs (), n (), ()), [fun _ => List.length (α := HV) (hs ()) <= 9223372036854775807])) (addS 28 (.cons shE .nil) (fun k nm pr po l s c hs n => (shE.mk fun _ => bareE (k (), (nm (), pr (), po (), l (), ()), s (), c (), hs (), n (), ()), [])) (addS 11 (.cons shE (.cons shE .nil)) (fun k nm pr po l s c hs n k' nm' pr' po' l' s' c' hs' n' => (.bool fun _ => evB (k (), (nm (), pr (), po (), l (), ()), s (), c (), hs (), n (), ()) (k' (), (nm' (), pr' (), po' (), l' (), ()), s' (), c' (), hs' (), n' (), ()), [fun _ => List.length (α := CV) (l ()) <= 9223372036854775807, fun _ => List.length (α := HV) (hs ()) <= 9223372036854775807])) Fq2))
theorem Fq3_ok : TableOK Tryz.prog G0 Fq3 := addS_ok qf27.callable (fun k nm pr po l s c hs n h => evfits_ok (k (), (nm (), pr (), po (), l (), ()), s (), c (), hs (), n (), ()) h.1) (addS_ok qf28.callable (fun k nm pr po l s c hs n _ => bare_ok (k (), (nm (), pr (), po (), l (), ()), s (), c (), hs (), n (), ())) (addS_ok qf11.callable (fun k nm pr po l s c hs n k' nm' pr' po' l' s' c' hs' n' h => esame_ok (k (), (nm (), pr (), po (), l (), ()), s (), c (), hs (), n (), ()) (k' (), (nm' (), pr' (), po' (), l' (), ()), s' (), c' (), hs' (), n' (), ()) h.1 h.2.1) Fq2_ok))
theorem rb_eq {e E : EV} (hE : E = e) (hf : fitsB e = true) : evB E ((bareE E).1, ((bareE E).2.1.1, (bareE E).2.1.2.1, (bareE E).2.1.2.2.1, (rdL shC.rd (fun _ => ((bareE E).2.1.2.2.2.1.length : Int)) fun j => shC.mk fun _ => ((bareE E).2.1.2.2.2.1 : List shC.val).getD (j ()).toNat shC.dflt : List CV), ()), (bareE E).2.2.1, (bareE E).2.2.2.1, (rdL shH.rd (fun _ => ((bareE E).2.2.2.2.1.length : Int)) fun j => shH.mk fun _ => ((bareE E).2.2.2.2.1 : List shH.val).getD (j ()).toNat shH.dflt : List HV), (bareE E).2.2.2.2.2.1, ()) = rightB e := by
 subst hE
 have e1 := rd_list (bareE E).2.1.2.2.2.1
 have e2 : (rdL shH.rd (fun _ => ((bareE E).2.2.2.2.1.length : Int)) fun j => shH.mk fun _ => ((bareE E).2.2.2.2.1 : List shH.val).getD (j ()).toNat shH.dflt) = (bareE E).2.2.2.2.1 := rdL_mkL shH (bareE E).2.2.2.2.1
 refine (congrArg (fun x : List CV => evB E ((bareE E).1, ((bareE E).2.1.1, (bareE E).2.1.2.1, (bareE E).2.1.2.2.1, x, ()), (bareE E).2.2.1, (bareE E).2.2.2.1, _, (bareE E).2.2.2.2.2.1, ())) e1).trans ?_
 refine (congrArg (fun x : List HV => evB E ((bareE E).1, (bareE E).2.1, (bareE E).2.2.1, (bareE E).2.2.2.1, x, (bareE E).2.2.2.2.2.1, ())) e2).trans ?_
 show evB E (bareE E) = (fitsB E && evB E (bareE E))
 rw [hf]; rfl
theorem evright_ok (e : EV) (hl : e.2.1.2.2.2.1.length <= 9223372036854775807) (hh : e.2.2.2.2.1.length <= 9223372036854775807) : PF 10 (.cons (shE.mk fun _ => e) .nil) (.bool fun _ => rightB e) := by
 obtain ⟨k, ⟨nm, pr, po, l, ⟨⟩⟩, s, c, hs, n, ⟨⟩⟩ := e
 refine tX qf10 Fq3_ok (.any) rfl ?_
 conv => arg 5; cbv
 have e1 := rd_list l
 have eH : (rdL shH.rd (fun _ => (hs.length : Int)) fun j => shH.mk fun _ => (hs : List shH.val).getD (j ()).toNat shH.dflt) = hs := rdL_mkL shH hs
 have l1 : (rdL shC.rd (fun _ => (l.length : Int)) fun j => shC.mk fun _ => (l : List shC.val).getD (j ()).toNat shC.dflt).length <= 9223372036854775807 := by
  rw [rdL_len]; show ((l.length : Nat) : Int).toNat <= _; rw [Int.toNat_natCast]; exact hl
 have l2 : (rdL shH.rd (fun _ => (hs.length : Int)) fun j => shH.mk fun _ => (hs : List shH.val).getD (j ()).toNat shH.dflt).length <= 9223372036854775807 := by
  rw [rdL_len]; show ((hs.length : Nat) : Int).toNat <= _; rw [Int.toNat_natCast]; exact hh
 have eE : (k, (nm, pr, po, (rdL shC.rd (fun _ => (l.length : Int)) fun j => shC.mk fun _ => (l : List shC.val).getD (j ()).toNat shC.dflt : List CV), ()), s, c, (rdL shH.rd (fun _ => (hs.length : Int)) fun j => shH.mk fun _ => (hs : List shH.val).getD (j ()).toNat shH.dflt : List HV), n, ()) = ((k, (nm, pr, po, l, ()), s, c, hs, n, ()) : EV) :=
  (congrArg (fun x : List CV => ((k, (nm, pr, po, x, ()), s, c, (rdL shH.rd (fun _ => (hs.length : Int)) fun j => shH.mk fun _ => (hs : List shH.val).getD (j ()).toNat shH.dflt : List HV), n, ()) : EV)) e1).trans (congrArg (fun x : List HV => ((k, (nm, pr, po, l, ()), s, c, x, n, ()) : EV)) eH)
 refine ⟨⟨l2, fun j => fits_of_mk shC _, fun j => fits_of_mk shH _, trivial⟩, fun h => ⟨⟨fun j => fits_of_mk shC _, fun j => fits_of_mk shH _, l1, l2, fun j => fits_of_mk shC _, fun j => fits_of_mk shH _, fun j => fits_of_mk shC _, fun j => fits_of_mk shH _, (by show drawOK _ _ = true; decide +kernel), trivial⟩, rfl, ?_⟩, fun h => ⟨⟨(by show drawOK _ _ = true; decide +kernel), trivial⟩, rfl, ?_⟩⟩
 ·exact rb_eq eE ((congrArg fitsB eE).symm.trans h)
 ·have h := (congrArg fitsB eE).symm.trans h
  show (fitsB (k, (nm, pr, po, l, ()), s, c, hs, n, ()) && _) = false
  rw [h]; rfl
def reA (hs : List HV) (i : Nat) : Env := [(52, .int .i64 fun _ => (i : Int)), (51, .int .i64 fun _ => (hs.length : Int)), (3, .ptr 1 0), (2, .ptr 0 0)]
def reS (p q : EV) : Store := [(0, .var (shE.mk fun _ => p)), (1, .var (shE.mk fun _ => q))]
theorem resame_ok (a b : EV) (hl : a.2.1.2.2.2.1.length <= 9223372036854775807) (hh : a.2.2.2.2.1.length <= 9223372036854775807) : PF 12 (.cons (shE.mk fun _ => a) (.cons (shE.mk fun _ => b) .nil)) (.bool fun _ => evB a b) := by
 obtain ⟨k, ⟨nm, pr, po, l, ⟨⟩⟩, s, c, hs, n, ⟨⟩⟩ := a
 obtain ⟨k', ⟨nm', pr', po', l', ⟨⟩⟩, s', c', hs', n', ⟨⟩⟩ := b
 refine tX qf12 Fq3_ok (.any) rfl ?_
 conv => arg 5; cbv
 have e1 := rd_list l
 have e2 := rd_list l'
 have eH : ∀ hs : List HV, (rdL shH.rd (fun _ => (hs.length : Int)) fun j => shH.mk fun _ => (hs : List shH.val).getD (j ()).toNat shH.dflt) = hs := fun hs => rdL_mkL shH hs
 have l1 : (rdL shC.rd (fun _ => (l.length : Int)) fun j => shC.mk fun _ => (l : List shC.val).getD (j ()).toNat shC.dflt).length <= 9223372036854775807 := by
  rw [rdL_len]; show ((l.length : Nat) : Int).toNat <= _; rw [Int.toNat_natCast]; exact hl
 have l2 : (rdL shH.rd (fun _ => (hs.length : Int)) fun j => shH.mk fun _ => (hs : List shH.val).getD (j ()).toNat shH.dflt).length <= 9223372036854775807 := by
  rw [rdL_len]; show ((hs.length : Nat) : Int).toNat <= _; rw [Int.toNat_natCast]; exact hh
 have no : ∀ {X : Bool}, X = false -> (evB (k, (nm, pr, po, l, ()), s, c, hs, n, ()) (k', (nm', pr', po', l', ()), s', c', hs', n', ()) = true -> X = true) -> evB (k, (nm, pr, po, l, ()), s, c, hs, n, ()) (k', (nm', pr', po', l', ()), s', c', hs', n', ()) = false := by
  intro X hX hi
  cases hb : evB (k, (nm, pr, po, l, ()), s, c, hs, n, ()) (k', (nm', pr', po', l', ()), s', c', hs', n', ()) with
  | false => rfl
  | true => rw [hi hb] at hX; cases hX
 have es : samB (nm, pr, po, rdL shC.rd (fun _ => (l.length : Int)) fun j => shC.mk fun _ => (l : List shC.val).getD (j ()).toNat shC.dflt, ()) (nm', pr', po', rdL shC.rd (fun _ => (l'.length : Int)) fun j => shC.mk fun _ => (l' : List shC.val).getD (j ()).toNat shC.dflt, ()) = samB (nm, pr, po, l, ()) (nm', pr', po', l', ()) :=
  (congrArg (fun x => samB (nm, pr, po, x, ()) _) e1).trans (congrArg (fun x => samB (nm, pr, po, l, ()) (nm', pr', po', x, ())) e2)
 have eh : hsB (rdL shH.rd (fun _ => (hs.length : Int)) fun j => shH.mk fun _ => (hs : List shH.val).getD (j ()).toNat shH.dflt) (rdL shH.rd (fun _ => (hs'.length : Int)) fun j => shH.mk fun _ => (hs' : List shH.val).getD (j ()).toNat shH.dflt) = hsB hs hs' :=
  (congrArg (fun x => hsB x _) (eH hs)).trans (congrArg (fun x => hsB hs x) (eH hs'))
 have yes : ∀ {X : Prop}, X -> (evB (k, (nm, pr, po, l, ()), s, c, hs, n, ()) (k', (nm', pr', po', l', ()), s', c', hs', n', ()) = true -> ¬ X) -> evB (k, (nm, pr, po, l, ()), s, c, hs, n, ()) (k', (nm', pr', po', l', ()), s', c', hs', n', ()) = false := by
  intro X hX hi
  cases hb : evB (k, (nm, pr, po, l, ()), s, c, hs, n, ()) (k', (nm', pr', po', l', ()), s', c', hs', n', ()) with
  | false => rfl
  | true => exact absurd hX (hi hb)
 refine ⟨fun h1 => ⟨rfl, yes (X := k ≠ k') (by have h1 : (k != k') = true := h1; simpa using h1) ?_⟩, fun h1 => ⟨⟨l1, fun j => fits_of_mk shC _, fun j => fits_of_mk shC _, trivial⟩, fun h2 => ⟨rfl, ?_⟩, fun h2 => ⟨fun h3 => ⟨rfl, ?_⟩, fun h3 => ⟨fun h4 => ⟨rfl, ?_⟩, fun h4 => ⟨fun h5 => ⟨rfl, yes (X := (hs.length : Int) ≠ (hs'.length : Int)) (by have h5 : ((hs.length : Int) != (hs'.length : Int)) = true := h5; simpa using h5) ?_⟩, fun h5 => ⟨fun h6 => ⟨rfl, yes (X := n ≠ n') (by have h6 : (n != n') = true := h6; simpa using h6) ?_⟩, fun h6 => ?_⟩⟩⟩⟩⟩⟩
 ·exact fun e h => h (congrArg (fun e : EV => e.1) (evB_iff.1 e))
 ·have h2 : (!samB (nm, pr, po, l, ()) (nm', pr', po', l', ())) = true := (congrArg (fun b => !b) es).symm.trans h2
  exact no (by simpa using h2) fun e => samB_iff.2 (congrArg (fun e : EV => e.2.1) (evB_iff.1 e))
 ·have h3 : ¬ s = s' := of_decide_eq_true (p := ¬ s = s') h3
  exact yes h3 fun e h => h (congrArg (fun e : EV => e.2.2.1) (evB_iff.1 e))
 ·have h4 : ¬ c = c' := of_decide_eq_true (p := ¬ c = c') h4
  exact yes h4 fun e h => h (congrArg (fun e : EV => e.2.2.2.1) (evB_iff.1 e))
 ·exact fun e h => h (congrArg (fun e : EV => (e.2.2.2.2.1.length : Int)) (evB_iff.1 e))
 ·exact fun e h => h (congrArg (fun e : EV => e.2.2.2.2.2.1) (evB_iff.1 e))
 have h1 : k = k' := by have h1 : (k != k') = false := h1; simpa using h1
 have h2 : samB (nm, pr, po, l, ()) (nm', pr', po', l', ()) = true := by
  have h2 : (!samB (nm, pr, po, l, ()) (nm', pr', po', l', ())) = false := (congrArg (fun b => !b) es).symm.trans h2
  simpa using h2
 have h3 : s = s' := by
  have h3 : ¬ ¬ s = s' := of_decide_eq_false (p := ¬ s = s') h3
  exact Decidable.not_not.1 h3
 have h4 : c = c' := by
  have h4 : ¬ ¬ c = c' := of_decide_eq_false (p := ¬ c = c') h4
  exact Decidable.not_not.1 h4
 have h5 : hs.length = hs'.length := by
  have h5 : ((hs.length : Int) != (hs'.length : Int)) = false := h5
  have : (hs.length : Int) = (hs'.length : Int) := by simpa using h5
  omega
 have h6 : n = n' := by have h6 : (n != n') = false := h6; simpa using h6
 refine run_inv (ι := Nat) (fun i => hs.length - i) (fun i => i <= hs.length /\ ∀ j, j < i -> hs.getD j h0 = hs'.getD j h0) (reA hs) (fun _ => reS (k, (nm, pr, po, l, ()), s, c, hs, n, ()) (k', (nm', pr', po', l', ()), s', c', hs', n', ())) 2 0 (fun i => i) (by rfl) (by rfl) ⟨Nat.zero_le _, fun j hj => by omega⟩ ?_ ⟨iR, iR, iR, iR, trivial⟩ ⟨iR, iR, trivial⟩
 intro i hi ih
 refine bX Fq3_ok (.any) _ rfl ?_
 conv => arg 5; cbv
 have hi1 := hi.1
 refine ⟨fun h => ?_, fun h => ⟨rfl, evB_iff.2 ?_⟩⟩
 ·have h : (i : Int) < (hs.length : Int) := of_decide_eq_true h
  have hi2 : i < hs.length := by omega
  have hw : IntKind.i64.wrap ((i : Int) + 1) = ((i + 1 : Nat) : Int) := by
   have hl : hs.length <= 9223372036854775807 := hh
   rw [IntWalk.i64_in _ ⟨by omega, by omega⟩]; omega
  refine ⟨⟨⟨Int.natCast_nonneg i, h⟩, ⟨Int.natCast_nonneg i, by show (i : Int) < (hs'.length : Int); omega⟩, (by show drawOK _ _ = true; decide +kernel), trivial⟩, fun g => ⟨rfl, ?_⟩, fun g => ?_⟩
  ·have g : (!heq (hs.getD i h0) (hs'.getD i h0)) = true := g
   refine no (X := heq (hs.getD i h0) (hs'.getD i h0)) (by simpa using g) fun e => ?_
   rw [show hs = hs' from congrArg (fun e : EV => e.2.2.2.2.1) (evB_iff.1 e)]
   exact heq_iff.2 rfl
  ·have g : (!heq (hs.getD i h0) (hs'.getD i h0)) = false := g
   have g : heq (hs.getD i h0) (hs'.getD i h0) = true := by simpa using g
   refine ih (i + 1) (fun i => i) ⟨by omega, fun j hj => ?_⟩ (by omega) (by rfl) ⟨⟨rfl, hw⟩, iR, iR, iR, trivial⟩ ⟨iR, iR, trivial⟩
   by_cases ej : j < i
   ·exact hi.2 j ej
   ·obtain rfl : j = i := by omega
    exact heq_iff.1 g
 ·have h : ¬ (i : Int) < (hs.length : Int) := of_decide_eq_false h
  rw [h1, samB_iff.1 h2, h3, h4, h6, hlist_eq.2 ⟨h5, fun j hj => hi.2 j (by omega)⟩]
noncomputable def Fq4 : Table := addS 10 (.cons shE .nil) (fun k nm pr po l s c hs n => (.bool fun _ => rightB (k (), (nm (), pr (), po (), l (), ()), s (), c (), hs (), n (), ()), [fun _ => List.length (α := CV) (l ()) <= 9223372036854775807, fun _ => List.length (α := HV) (hs ()) <= 9223372036854775807])) (addS 12 (.cons shE (.cons shE .nil)) (fun k nm pr po l s c hs n k' nm' pr' po' l' s' c' hs' n' => (.bool fun _ => evB (k (), (nm (), pr (), po (), l (), ()), s (), c (), hs (), n (), ()) (k' (), (nm' (), pr' (), po' (), l' (), ()), s' (), c' (), hs' (), n' (), ()), [fun _ => List.length (α := CV) (l ()) <= 9223372036854775807, fun _ => List.length (α := HV) (hs ()) <= 9223372036854775807])) Fq3)
theorem Fq4_ok : TableOK Tryz.prog G0 Fq4 := addS_ok qf10.callable (fun k nm pr po l s c hs n h => evright_ok (k (), (nm (), pr (), po (), l (), ()), s (), c (), hs (), n (), ()) h.1 h.2.1) (addS_ok qf12.callable (fun k nm pr po l s c hs n k' nm' pr' po' l' s' c' hs' n' h => resame_ok (k (), (nm (), pr (), po (), l (), ()), s (), c (), hs (), n (), ()) (k' (), (nm' (), pr' (), po' (), l' (), ()), s' (), c' (), hs' (), n' (), ()) h.1 h.2.1) Fq3_ok)
theorem restarts_ok (l : List Bool) : PF 65 (.cons (.arrB 3 fun _ => l) .nil) (.str fun _ => rsB l) := by
 refine qf65.treeP preX_ok (mkX_ok Fq4_ok emptyS_ok) (callB_ok emptyB_ok) true 60 (.any) rfl ?_
 conv => arg 5; cbv
 refine ⟨⟨(by decide), (by decide), trivial⟩, fun h0 => ⟨⟨(by decide), trivial⟩, ⟨⟨(by decide), (by decide), trivial⟩, fun h1 => ⟨⟨(by decide), trivial⟩, ⟨⟨(by decide), (by decide), trivial⟩, fun h2 => ⟨⟨(by decide), trivial⟩, ⟨fun z => absurd z (by decide), fun z => ⟨rfl, ?_⟩⟩⟩, fun h2 => ⟨fun z => absurd z (by decide), fun z => ⟨rfl, ?_⟩⟩⟩⟩, fun h1 => ⟨⟨(by decide), (by decide), trivial⟩, fun h2 => ⟨⟨(by decide), trivial⟩, ⟨fun z => absurd z (by decide), fun z => ⟨rfl, ?_⟩⟩⟩, fun h2 => ⟨fun z => absurd z (by decide), fun z => ⟨rfl, ?_⟩⟩⟩⟩⟩, fun h0 => ⟨⟨(by decide), (by decide), trivial⟩, fun h1 => ⟨⟨(by decide), trivial⟩, ⟨⟨(by decide), (by decide), trivial⟩, fun h2 => ⟨⟨(by decide), trivial⟩, ⟨fun z => absurd z (by decide), fun z => ⟨rfl, ?_⟩⟩⟩, fun h2 => ⟨fun z => absurd z (by decide), fun z => ⟨rfl, ?_⟩⟩⟩⟩, fun h1 => ⟨⟨(by decide), (by decide), trivial⟩, fun h2 => ⟨⟨(by decide), trivial⟩, ⟨fun z => absurd z (by decide), fun z => ⟨rfl, ?_⟩⟩⟩, fun h2 => ⟨fun z => ⟨rfl, ?_⟩, fun z => absurd z (by decide)⟩⟩⟩⟩
 ·have h0 : l.getD 0 false = true := h0
  have h1 : l.getD 1 false = true := h1
  have h2 : l.getD 2 false = true := h2
  show _ = rs3 (l.getD 0 false) (l.getD 1 false) (l.getD 2 false)
  rw [h0, h1, h2]; first | decide | decide +kernel | fail
 ·have h0 : l.getD 0 false = true := h0
  have h1 : l.getD 1 false = true := h1
  have h2 : l.getD 2 false = false := h2
  show _ = rs3 (l.getD 0 false) (l.getD 1 false) (l.getD 2 false)
  rw [h0, h1, h2]; first | decide | decide +kernel | fail
 ·have h0 : l.getD 0 false = true := h0
  have h1 : l.getD 1 false = false := h1
  have h2 : l.getD 2 false = true := h2
  show _ = rs3 (l.getD 0 false) (l.getD 1 false) (l.getD 2 false)
  rw [h0, h1, h2]; first | decide | decide +kernel | fail
 ·have h0 : l.getD 0 false = true := h0
  have h1 : l.getD 1 false = false := h1
  have h2 : l.getD 2 false = false := h2
  show _ = rs3 (l.getD 0 false) (l.getD 1 false) (l.getD 2 false)
  rw [h0, h1, h2]; first | decide | decide +kernel | fail
 ·have h0 : l.getD 0 false = false := h0
  have h1 : l.getD 1 false = true := h1
  have h2 : l.getD 2 false = true := h2
  show _ = rs3 (l.getD 0 false) (l.getD 1 false) (l.getD 2 false)
  rw [h0, h1, h2]; first | decide | decide +kernel | fail
 ·have h0 : l.getD 0 false = false := h0
  have h1 : l.getD 1 false = true := h1
  have h2 : l.getD 2 false = false := h2
  show _ = rs3 (l.getD 0 false) (l.getD 1 false) (l.getD 2 false)
  rw [h0, h1, h2]; first | decide | decide +kernel | fail
 ·have h0 : l.getD 0 false = false := h0
  have h1 : l.getD 1 false = false := h1
  have h2 : l.getD 2 false = true := h2
  show _ = rs3 (l.getD 0 false) (l.getD 1 false) (l.getD 2 false)
  rw [h0, h1, h2]; first | decide | decide +kernel | fail
 ·have h0 : l.getD 0 false = false := h0
  have h1 : l.getD 1 false = false := h1
  have h2 : l.getD 2 false = false := h2
  show _ = rs3 (l.getD 0 false) (l.getD 1 false) (l.getD 2 false)
  rw [h0, h1, h2]; first | decide | decide +kernel | fail
theorem vectors_ok (a b : ByteArray) (ha : a.size < 2147483648) (hb : b.size < 2147483648) : PF 68 (.cons (.str fun _ => a) (.cons (.str fun _ => b) .nil)) (.tuple (.cons (shVe.mk fun _ => pV a) (.cons (shVe.mk fun _ => pV b) .nil))) := by
 refine tX qf68 Fq4_ok (.any) rfl ?_
 conv => arg 5; cbv
 exact ⟨⟨ha, hb, (by show drawOK _ _ = true; decide +kernel), trivial⟩, rfl, iR, iR, rfl⟩
noncomputable def Fq5 : Table := addS 68 (.cons .str (.cons .str .nil)) (fun a b => (.tuple (.cons (.agg (.cons (.int .i64 fun _ => (vParse (a ()).data.toList).1.getD 0 0) (.cons (.int .i64 fun _ => (vParse (a ()).data.toList).1.getD 1 0) (.cons (.int .i64 fun _ => (vParse (a ()).data.toList).1.getD 2 0) .nil)))) (.cons (.agg (.cons (.int .i64 fun _ => (vParse (b ()).data.toList).1.getD 0 0) (.cons (.int .i64 fun _ => (vParse (b ()).data.toList).1.getD 1 0) (.cons (.int .i64 fun _ => (vParse (b ()).data.toList).1.getD 2 0) .nil)))) .nil)), [fun _ => (a ()).size < 2147483648, fun _ => (b ()).size < 2147483648])) (addS 65 (.cons (.arrB 3) .nil) (fun l => (.str fun _ => rsB (l ()), [])) Fq4)
theorem Fq5_ok : TableOK Tryz.prog G0 Fq5 := addS_ok qf68.callable (fun a b h => vectors_ok (a ()) (b ()) h.1 h.2.1) (addS_ok qf65.callable (fun l _ _ => restarts_ok (l ())) Fq4_ok)
structure ChX where
 r : List ByteArray
 hs : List HV
def chA (x : ChX) : Env := [(0, Sh.mkL 1 .str fun _ => x.r), (3, .slice (some 0) 7 (fun _ => (x.hs.length : Int)) fun j => shH.mk fun _ => (x.hs : List shH.val).getD (j ()).toNat shH.dflt)]
def chS : Store := [(0, .own 7 47)]
theorem changes_ok (w : List ByteArray) (hl : w.length <= 1000000) (hw : ∀ s ∈ w, s.size < 2147483648) : PF 38 (.cons (Sh.mkL 1 .str fun _ => w) .nil) (Sh.mkL 7 shH fun _ => chsOf w) := by
 refine tX qf38 Fq5_ok (.any) rfl ?_
 conv => arg 5; cbv
 refine run_own (A := _) 3 7 47 (shH.mk fun _ => h0) (by rfl) (by rfl) (by rfl) ?_
 refine run_inv (ι := ChX) (fun x => x.r.length) (fun x => x.hs ++ chsOf x.r = chsOf w /\ (∀ s ∈ x.r, s.size < 2147483648) /\ x.r.length + x.hs.length <= 1000000) chA (fun _ => chS) 1 ⟨w, []⟩ (fun i => i) (by rfl) (by rfl) ⟨rfl, hw, by simpa using hl⟩ ?_ ⟨iR, ⟨.inr rfl, rfl, rfl, fun j h0 h1 => absurd h1 (by show ¬ j < 0; omega)⟩, trivial⟩ ⟨⟨rfl, rfl⟩, trivial⟩
 rintro ⟨r, hs⟩ hi ih
 dsimp only at hi
 refine bX Fq5_ok (.any) _ rfl ?_
 conv => arg 5; cbv
 refine ⟨fun h => ?_, fun h => ?_⟩
 ·have h : 3 <= (r.length : Int) := of_decide_eq_true h
  obtain ⟨a, b, c, q, rfl⟩ : ∃ a b c q, r = a :: b :: c :: q := by
   match r, h with
   | a :: b :: c :: q, _ => exact ⟨a, b, c, q, rfl⟩
   | [], h => exact absurd h (by decide)
   | [_], h => exact absurd h (by simp)
   | [_, _], h => exact absurd h (by simp)
  have hlen : ((a :: b :: c :: q).length : Int) = (q.length : Int) + 3 := by simp only [List.length_cons]; omega
  have hq : q.length + 3 + hs.length <= 1000000 := hi.2.2
  have hb : b.size < 2147483648 := hi.2.1 b (by simp)
  have hc : c.size < 2147483648 := hi.2.1 c (by simp)
  refine ⟨⟨⟨by decide, by show (0 : Int) < ((a :: b :: c :: q).length : Int); omega⟩, ⟨by decide, by show (1 : Int) < ((a :: b :: c :: q).length : Int); omega⟩, ⟨by decide, by show (2 : Int) < ((a :: b :: c :: q).length : Int); omega⟩, hb, hc, (by show drawOK _ _ = true; decide +kernel), ?_, ⟨by decide, by show (3 : Int) <= ((a :: b :: c :: q).length : Int); omega⟩, trivial⟩, ?_⟩
  ·show (0 : Int) < 1 /\ ((hs.length : Int) + 1) * 64 <= 140737488355328
   omega
  refine ih ⟨q, hs ++ [(a, pV b, pV c, ())]⟩ (fun i => bif beqN i 0 then 2 else i) ⟨?_, fun s hs => hi.2.1 s (by simp [hs]), ?_⟩ (by show q.length < q.length + 3; omega) (by rfl) ⟨⟨.inl rfl, rfl, ?_, fun j h0 h1 => ?_⟩, push_imp shH (some 2) 7 hs (a, pV b, pV c, ()), trivial⟩ ⟨⟨rfl, rfl⟩, trivial⟩
  ·show (hs ++ [(a, pV b, pV c, ())]) ++ chsOf q = chsOf w
   rw [<- hi.1, List.append_assoc]; rfl
  ·show q.length + (hs ++ [(a, pV b, pV c, ())]).length <= 1000000
   rw [List.length_append, List.length_singleton]; omega
  ·show ((a :: b :: c :: q).length : Int) - 3 = (q.length : Int)
   omega
  ·show (a :: b :: c :: q).getD (3 + j).toNat _ = q.getD j.toNat _
   rw [show (3 + j).toNat = j.toNat + 3 by omega]; rfl
 ·have h : ¬ 3 <= (r.length : Int) := of_decide_eq_false h
  have hr : chsOf r = [] := by
   match r, h with
   | a :: b :: c :: q, h => exact absurd (by simp only [List.length_cons]; omega) h
   | [], _ => rfl
   | [_], _ => rfl
   | [_, _], _ => rfl
  have e : hs = chsOf w := by rw [<- hi.1, hr, List.append_nil]
  rw [<- e]
  exact ⟨rfl, .inl rfl, rfl, rfl, fun j _ _ => iR⟩
noncomputable def Fq6 : Table := addS 38 (.cons (.slice 1 .str) .nil) (fun w => (Sh.mkL 7 shH fun _ => chsOf (w ()), [fun _ => List.length (α := ByteArray) (w ()) <= 1000000, fun _ => ∀ s ∈ (w () : List ByteArray), s.size < 2147483648])) Fq5
theorem Fq6_ok : TableOK Tryz.prog G0 Fq6 := addS_ok qf38.callable (fun w h => changes_ok (w ()) h.1 h.2.1) Fq5_ok
theorem rword_ok (w : List ByteArray) (i : Int) (hi : 0 <= i) : PF 40 (.cons (Sh.mkL 1 .str fun _ => w) (.cons (.int .i64 fun _ => i) .nil)) (.str fun _ => w.getD i.toNat ByteArray.empty) := by
 refine tX qf40 Fq6_ok (.any) rfl ?_
 conv => arg 5; cbv
 refine ⟨fun h => ?_, fun h => ⟨rfl, ?_⟩⟩
 ·have h : i < (w.length : Int) := of_decide_eq_true h
  exact ⟨⟨⟨hi, h⟩, trivial⟩, rfl, rfl⟩
 ·have h : ¬ i < (w.length : Int) := of_decide_eq_false h
  show ByteArray.empty = w.getD i.toNat ByteArray.empty
  rw [List.getD_eq_getElem?_getD, List.getElem?_eq_none (by omega)]; rfl
noncomputable def Fq7 : Table := addS 40 (.cons (.slice 1 .str) (.cons (.int .i64) .nil)) (fun w i => (.str fun _ => List.getD (α := ByteArray) (w ()) (i ()).toNat ByteArray.empty, [fun _ => 0 <= i ()])) Fq6
theorem Fq7_ok : TableOK Tryz.prog G0 Fq7 := addS_ok qf40.callable (fun w i h => rword_ok (w ()) (i ()) h.1) Fq6_ok
def numT (t : ByteArray) (sg : Int) : Int := if t = ByteArray.empty \/ (17 : Int) < t.size \/ digOK t t.size = false then 1152921504606846976 else sg * digV t t.size
def rnum (s : ByteArray) : Int := if (0 : Int) < s.size /\ byteAt s 0 = 45 then numT (s.extract 1 s.size) (-1) else numT s 1
theorem digV_17 {t : ByteArray} {k : Nat} (h : digOK t k = true) (hk : k <= 17) : 0 <= digV t k /\ digV t k < 100000000000000000 := by
 obtain ⟨h1, h2⟩ := digV_le h
 refine ⟨h1, Int.lt_of_lt_of_le h2 ?_⟩
 have h3 : (10 : Nat) ^ k <= 10 ^ 17 := Nat.pow_le_pow_right (by decide) hk
 have h4 : ((10 ^ k : Nat) : Int) <= ((10 ^ 17 : Nat) : Int) := Int.ofNat_le.2 h3
 rw [Int.natCast_pow] at h4
 exact h4
theorem dig_step {t : ByteArray} {i : Nat} (hi : i < 17) (h : digOK t i = true) (h1 : ¬ byteAt t i < 48) (h2 : ¬ 57 < byteAt t i) :
  IntKind.i64.wrap (IntKind.i64.wrap (10 * digV t i) + IntKind.i64.wrap (IntKind.u8.wrap (byteAt t i - 48))) = digV t (i + 1) /\ digOK t (i + 1) = true := by
 have hs := digV_17 h (by omega)
 refine ⟨?_, ?_⟩
 ·rw [IntWalk.u8_in _ ⟨by omega, by omega⟩, IntWalk.i64_in (byteAt t i - 48) ⟨by omega, by omega⟩, IntWalk.i64_in (10 * digV t i) ⟨by omega, by omega⟩, IntWalk.i64_in _ ⟨by omega, by omega⟩]
  rfl
 ·rw [digOK_succ, h, isDig]
  simp; omega
def nuA (t : ByteArray) (sg : Int) (i : Nat) : Env := [(5, .int .i64 fun _ => (i : Int)), (4, .int .i64 fun _ => sg), (3, .int .i64 fun _ => digV t i), (0, .str fun _ => t)]
theorem rnumber_ok (s : ByteArray) (hs : s.size < 2147483648) : PF 41 (.cons (.str fun _ => s) .nil) (.int .i64 fun _ => rnum s) := by
 have r1 : (0 : Int) < s.size -> byteAt s 0 = 45 -> rnum s = numT (s.extract 1 s.size) (-1) := fun h k => if_pos ⟨h, k⟩
 have r2 : ¬ ((0 : Int) < s.size /\ byteAt s 0 = 45) -> rnum s = numT s 1 := fun h => if_neg h
 have t1 : ∀ t sg, t = ByteArray.empty -> numT t sg = 1152921504606846976 := fun t sg h => if_pos (.inl h)
 have t2 : ∀ (t : ByteArray) sg, (17 : Int) < t.size -> numT t sg = 1152921504606846976 := fun t sg h => if_pos (.inr (.inl h))
 have t3 : ∀ (t : ByteArray) sg, digOK t t.size = false -> numT t sg = 1152921504606846976 := fun t sg h => if_pos (.inr (.inr h))
 have t4 : ∀ (t : ByteArray) sg, ¬ t = ByteArray.empty -> ¬ (17 : Int) < t.size -> digOK t t.size = true -> numT t sg = sg * digV t t.size := fun t sg h1 h2 h3 => if_neg (by rintro (h | h | h); exact h1 h; exact h2 h; rw [h3] at h; cases h)
 generalize hr : rnum s = R
 rw [hr] at r1 r2
 refine tX qf41 Fq7_ok (.any) rfl ?_
 conv => arg 5; cbv
 refine ⟨fun a => ⟨⟨⟨by decide, of_decide_eq_true a⟩, trivial⟩, fun b => ⟨⟨⟨by decide, by show (1 : Int) <= (s.size : Int); have a : (0 : Int) < (s.size : Int) := of_decide_eq_true a; omega⟩, trivial⟩, fun c => ⟨rfl, ?_⟩, fun c => ⟨fun d => ⟨rfl, ?_⟩, fun d => ?_⟩⟩, fun b => ⟨fun c => ⟨rfl, ?_⟩, fun c => ⟨fun d => ⟨rfl, ?_⟩, fun d => ?_⟩⟩⟩, fun a => ⟨fun c => ⟨rfl, ?_⟩, fun c => ⟨fun d => ⟨rfl, ?_⟩, fun d => ?_⟩⟩⟩
 ·have e : R = numT (s.extract 1 s.size) (-1) := r1 (of_decide_eq_true a) (by simpa using b)
  exact ⟨rfl, (e.trans (t1 _ _ (of_decide_eq_true c))).symm⟩
 ·have e : R = numT (s.extract 1 s.size) (-1) := r1 (of_decide_eq_true a) (by simpa using b)
  exact ⟨rfl, (e.trans (t2 _ _ (of_decide_eq_true d))).symm⟩
 ·have e : R = numT (s.extract 1 s.size) (-1) := r1 (of_decide_eq_true a) (by simpa using b)
  have c : ¬ (s.extract 1 s.size) = ByteArray.empty := of_decide_eq_false c
  have d : ¬ (17 : Int) < ((s.extract 1 s.size)).size := of_decide_eq_false d
  generalize ht : (s.extract 1 s.size) = t at e c d
  refine run_inv (ι := Nat) (fun i => t.size - i) (fun i => i <= t.size /\ digOK t i = true) (nuA t (-1)) (fun _ => []) 0 0 (fun i => i) (by rfl) (by rfl) ⟨Nat.zero_le _, rfl⟩ ?_ ⟨iR, iR, iR, ht, trivial⟩ trivial
  intro i hi ih
  refine bX Fq7_ok (.any) _ rfl ?_
  conv => arg 5; cbv
  have hi1 := hi.1
  refine ⟨fun h => ?_, fun h => ?_⟩
  ·have h : (i : Int) < (t.size : Int) := of_decide_eq_true h
   have hi2 : i < t.size := by omega
   have hw : IntKind.i64.wrap ((i : Int) + 1) = ((i + 1 : Nat) : Int) := by rw [IntWalk.i64_in _ ⟨by omega, by omega⟩]; omega
   have hx : 0 <= (i : Int) /\ (i : Int) < (t.size : Int) := ⟨Int.natCast_nonneg i, h⟩
   have no : byteAt t i < 48 \/ 57 < byteAt t i -> R = 1152921504606846976 := fun k => e.trans (t3 _ _ (digOK_no hi2 (by have := not_dig (s := t) (Int.natCast_nonneg i) k; rwa [Int.toNat_natCast] at this)))
   refine ⟨⟨hx, trivial⟩, fun p => ⟨rfl, rfl, (no (.inl (of_decide_eq_true p))).symm⟩, fun p => ⟨⟨hx, trivial⟩, fun q => ⟨rfl, rfl, (no (.inr (of_decide_eq_true q))).symm⟩, fun q => ⟨⟨hx, trivial⟩, ?_⟩⟩⟩
   have p : ¬ byteAt t i < 48 := of_decide_eq_false p
   have q : ¬ 57 < byteAt t i := of_decide_eq_false q
   have ds := dig_step (by omega) hi.2 p q
   exact ih (i + 1) (fun i => i) ⟨by omega, ds.2⟩ (by omega) (by rfl) ⟨⟨rfl, hw⟩, iR, ⟨rfl, ds.1⟩, iR, trivial⟩ trivial
  ·have h : ¬ (i : Int) < (t.size : Int) := of_decide_eq_false h
   obtain rfl : i = t.size := by omega
   have b := digV_17 hi.2 (by omega)
   refine ⟨rfl, rfl, ?_⟩
   show IntKind.i64.wrap ((-1) * digV t t.size) = R
   rw [e.trans (t4 _ _ c d hi.2), IntWalk.i64_in _ ⟨by omega, by omega⟩]
 ·have e : R = numT s 1 := r2 fun h => absurd h.2 (by have b : (byteAt s 0 == 45) = false := b; simpa using b)
  exact ⟨rfl, (e.trans (t1 _ _ (of_decide_eq_true c))).symm⟩
 ·have e : R = numT s 1 := r2 fun h => absurd h.2 (by have b : (byteAt s 0 == 45) = false := b; simpa using b)
  exact ⟨rfl, (e.trans (t2 _ _ (of_decide_eq_true d))).symm⟩
 ·have e : R = numT s 1 := r2 fun h => absurd h.2 (by have b : (byteAt s 0 == 45) = false := b; simpa using b)
  have c : ¬ s = ByteArray.empty := of_decide_eq_false c
  have d : ¬ (17 : Int) < (s).size := of_decide_eq_false d
  refine run_inv (ι := Nat) (fun i => s.size - i) (fun i => i <= s.size /\ digOK s i = true) (nuA s 1) (fun _ => []) 0 0 (fun i => i) (by rfl) (by rfl) ⟨Nat.zero_le _, rfl⟩ ?_ ⟨iR, iR, iR, iR, trivial⟩ trivial
  intro i hi ih
  refine bX Fq7_ok (.any) _ rfl ?_
  conv => arg 5; cbv
  have hi1 := hi.1
  refine ⟨fun h => ?_, fun h => ?_⟩
  ·have h : (i : Int) < (s.size : Int) := of_decide_eq_true h
   have hi2 : i < s.size := by omega
   have hw : IntKind.i64.wrap ((i : Int) + 1) = ((i + 1 : Nat) : Int) := by rw [IntWalk.i64_in _ ⟨by omega, by omega⟩]; omega
   have hx : 0 <= (i : Int) /\ (i : Int) < (s.size : Int) := ⟨Int.natCast_nonneg i, h⟩
   have no : byteAt s i < 48 \/ 57 < byteAt s i -> R = 1152921504606846976 := fun k => e.trans (t3 _ _ (digOK_no hi2 (by have := not_dig (s := s) (Int.natCast_nonneg i) k; rwa [Int.toNat_natCast] at this)))
   refine ⟨⟨hx, trivial⟩, fun p => ⟨rfl, rfl, (no (.inl (of_decide_eq_true p))).symm⟩, fun p => ⟨⟨hx, trivial⟩, fun q => ⟨rfl, rfl, (no (.inr (of_decide_eq_true q))).symm⟩, fun q => ⟨⟨hx, trivial⟩, ?_⟩⟩⟩
   have p : ¬ byteAt s i < 48 := of_decide_eq_false p
   have q : ¬ 57 < byteAt s i := of_decide_eq_false q
   have ds := dig_step (by omega) hi.2 p q
   exact ih (i + 1) (fun i => i) ⟨by omega, ds.2⟩ (by omega) (by rfl) ⟨⟨rfl, hw⟩, iR, ⟨rfl, ds.1⟩, iR, trivial⟩ trivial
  ·have h : ¬ (i : Int) < (s.size : Int) := of_decide_eq_false h
   obtain rfl : i = s.size := by omega
   have b := digV_17 hi.2 (by omega)
   refine ⟨rfl, rfl, ?_⟩
   show IntKind.i64.wrap (1 * digV s s.size) = R
   rw [e.trans (t4 _ _ c d hi.2), IntWalk.i64_in _ ⟨by omega, by omega⟩]
 ·have e : R = numT s 1 := r2 fun h => absurd h.1 (of_decide_eq_false a)
  exact ⟨rfl, (e.trans (t1 _ _ (of_decide_eq_true c))).symm⟩
 ·have e : R = numT s 1 := r2 fun h => absurd h.1 (of_decide_eq_false a)
  exact ⟨rfl, (e.trans (t2 _ _ (of_decide_eq_true d))).symm⟩
 ·have e : R = numT s 1 := r2 fun h => absurd h.1 (of_decide_eq_false a)
  have c : ¬ s = ByteArray.empty := of_decide_eq_false c
  have d : ¬ (17 : Int) < (s).size := of_decide_eq_false d
  refine run_inv (ι := Nat) (fun i => s.size - i) (fun i => i <= s.size /\ digOK s i = true) (nuA s 1) (fun _ => []) 0 0 (fun i => i) (by rfl) (by rfl) ⟨Nat.zero_le _, rfl⟩ ?_ ⟨iR, iR, iR, iR, trivial⟩ trivial
  intro i hi ih
  refine bX Fq7_ok (.any) _ rfl ?_
  conv => arg 5; cbv
  have hi1 := hi.1
  refine ⟨fun h => ?_, fun h => ?_⟩
  ·have h : (i : Int) < (s.size : Int) := of_decide_eq_true h
   have hi2 : i < s.size := by omega
   have hw : IntKind.i64.wrap ((i : Int) + 1) = ((i + 1 : Nat) : Int) := by rw [IntWalk.i64_in _ ⟨by omega, by omega⟩]; omega
   have hx : 0 <= (i : Int) /\ (i : Int) < (s.size : Int) := ⟨Int.natCast_nonneg i, h⟩
   have no : byteAt s i < 48 \/ 57 < byteAt s i -> R = 1152921504606846976 := fun k => e.trans (t3 _ _ (digOK_no hi2 (by have := not_dig (s := s) (Int.natCast_nonneg i) k; rwa [Int.toNat_natCast] at this)))
   refine ⟨⟨hx, trivial⟩, fun p => ⟨rfl, rfl, (no (.inl (of_decide_eq_true p))).symm⟩, fun p => ⟨⟨hx, trivial⟩, fun q => ⟨rfl, rfl, (no (.inr (of_decide_eq_true q))).symm⟩, fun q => ⟨⟨hx, trivial⟩, ?_⟩⟩⟩
   have p : ¬ byteAt s i < 48 := of_decide_eq_false p
   have q : ¬ 57 < byteAt s i := of_decide_eq_false q
   have ds := dig_step (by omega) hi.2 p q
   exact ih (i + 1) (fun i => i) ⟨by omega, ds.2⟩ (by omega) (by rfl) ⟨⟨rfl, hw⟩, iR, ⟨rfl, ds.1⟩, iR, trivial⟩ trivial
  ·have h : ¬ (i : Int) < (s.size : Int) := of_decide_eq_false h
   obtain rfl : i = s.size := by omega
   have b := digV_17 hi.2 (by omega)
   refine ⟨rfl, rfl, ?_⟩
   show IntKind.i64.wrap (1 * digV s s.size) = R
   rw [e.trans (t4 _ _ c d hi.2), IntWalk.i64_in _ ⟨by omega, by omega⟩]
theorem pow10_of {M : Mem} {w : World} {g} (hG : GOK G0 M) (hI : Inv M noNames g w) : Lib.TabIs Tryz.prog w "internal/strconv.uint64pow10" .u64 Lib.pow10Tab := by
 have hg : Tryz.prog.globalNamed "internal/strconv.uint64pow10" = some 3 := by kernel_rfl
 obtain ⟨t, fr, e⟩ := hG.2.2.1 _ hg
 have h := (hI.stat _ _ e).1
 unfold Lib.TabIs World.var?
 rw [hg]
 show (match w.heap[3]? with
  | some (Obj.cells cs _ _) => some cs
  | _ => none) = _
 rw [h]
def itz (n : Int) : ByteArray := ⟨(Lib.itoa n).toArray⟩
theorem itz_ok (n : Int) (h0 : -9223372036854775808 <= n) (h1 : n <= 9223372036854775807) : PF 63 (.cons (.int .i64 fun _ => n) .nil) (.str fun _ => itz n) := by
 refine PFun.of_below qf63.callable fun M w vs hG hI hr => ?_
 rcases hr with ⟨h, _⟩ | ⟨_, v, ws, rfl, hv, hn⟩
 ·cases h
 obtain ⟨_, rfl⟩ := hn
 obtain ⟨_, hv⟩ := hv
 obtain rfl : v = .int .i64 n := by simpa using hv
 refine (Tryz.strconv_Itoa n h0 h1 w (pow10_of hG hI)).mono ?_
 rintro e w' ⟨rfl, k, os, rfl⟩
 exact ⟨_, rfl, ⟨rfl, rfl, rfl, by simp [Go.Sort.grow, World.drewN], fun b hb => by
  show (w.heap ++ os)[b]? = w.heap[b]?
  rw [Array.getElem?_append_left hb]⟩, by simp, rfl⟩
def hasB (s : ByteArray) (c : UInt8) : Bool := decide (0 <= Lib.indexByte s.data.toList c)
theorem contains_ok (s : ByteArray) (c : UInt8) : PF 69 (.cons (.str fun _ => s) (.cons (.str fun _ => ⟨#[c]⟩) .nil)) (.bool fun _ => hasB s c) := by
 refine PFun.of_below qf69.callable fun M w vs hG hI hr => ?_
 rcases hr with ⟨h, _⟩ | ⟨_, v, ws, rfl, hv, hn⟩
 ·cases h
 rcases hn with ⟨h, _⟩ | ⟨_, v2, ws, rfl, hv2, hn⟩
 ·cases h
 obtain ⟨_, rfl⟩ := hn
 obtain ⟨_, hv⟩ := hv
 obtain ⟨_, hv2⟩ := hv2
 obtain rfl : v = .string s := by simpa using hv
 obtain rfl : v2 = .string ⟨#[c]⟩ := by simpa using hv2
 refine (Tryz.strings_Contains_one s c w).mono ?_
 rintro e w' ⟨rfl, rfl⟩
 exact ⟨_, rfl, ⟨rfl, rfl, rfl, Nat.le_refl _, fun b hb => rfl⟩, by simp, rfl⟩
noncomputable def Fq8 : Table := addS 63 (.cons (.int .i64) .nil) (fun n => (.str fun _ => itz (n ()), [fun _ => -9223372036854775808 <= n () /\ n () <= 9223372036854775807])) (addS 41 (.cons .str .nil) (fun s => (.int .i64 fun _ => rnum (s ()), [fun _ => (s ()).size < 2147483648])) Fq7)
theorem Fq8_ok : TableOK Tryz.prog G0 Fq8 := addS_ok qf63.callable (fun n h => itz_ok (n ()) h.1.1 h.1.2) (addS_ok qf41.callable (fun s h => rnumber_ok (s ()) h.1) Fq7_ok)
noncomputable def Fq9 : Table := addS 69 (.cons .str (.cons .str .nil)) (fun s c => (.bool fun _ => hasB (s ()) ((c ()).data.toList.getD 0 0), [fun _ => ∃ x, c () = (⟨#[x]⟩ : ByteArray)])) Fq8
theorem Fq9_ok : TableOK Tryz.prog G0 Fq9 := addS_ok qf69.callable (fun s c h => by
 obtain ⟨x, hx⟩ := h.1
 have := contains_ok (s ()) x
 rw [<- hx] at this
 have e : ((c ()).data.toList.getD 0 0) = x := by rw [hx]; rfl
 show PF _ _ (.bool fun _ => hasB (s ()) ((c ()).data.toList.getD 0 0))
 rw [e]
 exact this) Fq8_ok
def conOf (a b c d : ByteArray) : CV := (a, pV b, pV c, [hasB d 99, hasB d 109, hasB d 104], ())
def consOf : List ByteArray -> List CV
 | a :: b :: c :: d :: r => conOf a b c d :: consOf r
 | _ => []
structure CoX where
 r : List ByteArray
 cs : List CV
def coA (x : CoX) : Env := [(0, Sh.mkL 1 .str fun _ => x.r), (3, .slice (some 0) 10 (fun _ => (x.cs.length : Int)) fun j => shC.mk fun _ => (x.cs : List shC.val).getD (j ()).toNat shC.dflt)]
def coS : Store := [(0, .own 10 50)]
def rsI (d : ByteArray) : Nat -> List Bool
 | 0 => [false, false, false]
 | 1 => [hasB d 99, false, false]
 | 2 => [hasB d 99, hasB d 109, false]
 | _ => [hasB d 99, hasB d 109, hasB d 104]
def coA2 (r : List ByteArray) (cs : List CV) (i : Nat) : Env := [(27, .int .i64 fun _ => (i : Int)), (4, .ptr 1 0), (0, Sh.mkL 1 .str fun _ => r), (3, .slice (some 0) 10 (fun _ => (cs.length : Int)) fun j => shC.mk fun _ => (cs : List shC.val).getD (j ()).toNat shC.dflt)]
def coS2 (a b c d : ByteArray) (i : Nat) : Store := [(0, .own 10 50), (1, .var (shC.mk fun _ => ((a, pV b, pV c, rsI d i, ()) : CV)))]
theorem containers_ok (w : List ByteArray) (hl : w.length <= 1000000) (hw : ∀ s ∈ w, s.size < 2147483648) : PF 37 (.cons (Sh.mkL 1 .str fun _ => w) .nil) (Sh.mkL 10 shC fun _ => consOf w) := by
 refine tX qf37 Fq9_ok (.any) rfl ?_
 conv => arg 5; cbv
 refine run_own (A := _) 3 10 50 (shC.mk fun _ => c0) (by rfl) (by rfl) (by rfl) ?_
 refine run_inv (ι := CoX) (fun x => x.r.length) (fun x => x.cs ++ consOf x.r = consOf w /\ (∀ s ∈ x.r, s.size < 2147483648) /\ x.r.length + x.cs.length <= 1000000) coA (fun _ => coS) 1 ⟨w, []⟩ (fun i => i) (by rfl) (by rfl) ⟨rfl, hw, by simpa using hl⟩ ?_ ⟨iR, ⟨.inr rfl, rfl, rfl, fun j h0 h1 => absurd h1 (by show ¬ j < 0; omega)⟩, trivial⟩ ⟨⟨rfl, rfl⟩, trivial⟩
 rintro ⟨r, cs⟩ hi ih
 dsimp only at hi
 refine bX Fq9_ok (.any) _ rfl ?_
 conv => arg 5; cbv
 refine ⟨fun h => ?_, fun h => ?_⟩
 ·have h : 4 <= (r.length : Int) := of_decide_eq_true h
  obtain ⟨a, b, c, d, q, rfl⟩ : ∃ a b c d q, r = a :: b :: c :: d :: q := by
   match r, h with
   | a :: b :: c :: d :: q, _ => exact ⟨a, b, c, d, q, rfl⟩
   | [], h => exact absurd h (by decide)
   | [_], h => exact absurd h (by simp)
   | [_, _], h => exact absurd h (by simp)
   | [_, _, _], h => exact absurd h (by simp)
  have hlen : ((a :: b :: c :: d :: q).length : Int) = (q.length : Int) + 4 := by simp only [List.length_cons]; omega
  have hq : q.length + 4 + cs.length <= 1000000 := hi.2.2
  have hb : b.size < 2147483648 := hi.2.1 b (by simp)
  have hc : c.size < 2147483648 := hi.2.1 c (by simp)
  refine ⟨⟨⟨by decide, by show (0 : Int) < ((a :: b :: c :: d :: q).length : Int); omega⟩, ⟨by decide, by show (1 : Int) < ((a :: b :: c :: d :: q).length : Int); omega⟩, ⟨by decide, by show (2 : Int) < ((a :: b :: c :: d :: q).length : Int); omega⟩, hb, hc, (by show drawOK _ _ = true; decide +kernel), trivial⟩, ?_⟩
  refine run_inv (ι := Nat) (fun i => 3 - i) (fun i => i <= 3) (coA2 (a :: b :: c :: d :: q) cs) (coS2 a b c d) 2 0 (fun i => i) (by rfl) (by rfl) (by decide) ?_ ⟨iR, iR, iR, iR, trivial⟩ ⟨⟨rfl, rfl⟩, iR, trivial⟩
  intro i hi3 ih2
  refine bX Fq9_ok (.any) _ rfl ?_
  conv => arg 5; cbv
  refine ⟨fun k1 => ?_, fun k1 => ?_⟩
  ·have k1 : (i : Int) < 3 := of_decide_eq_true k1
   have h3 : (0 : Int) <= 3 /\ (3 : Int) < ((a :: b :: c :: d :: q).length : Int) := ⟨by decide, by omega⟩
   obtain rfl | rfl | rfl : i = 0 \/ i = 1 \/ i = 2 := by omega
   ·refine ⟨⟨h3, by decide, ⟨99, by decide⟩, by decide, by decide, (by show drawOK _ _ = true; decide +kernel), trivial⟩, ?_⟩
    exact ih2 1 (fun i => i) (by decide) (by decide) (by rfl) ⟨⟨rfl, by decide⟩, iR, iR, iR, trivial⟩ ⟨⟨rfl, rfl⟩, iR, trivial⟩
   ·refine ⟨⟨h3, by decide, ⟨109, by decide⟩, by decide, by decide, (by show drawOK _ _ = true; decide +kernel), trivial⟩, ?_⟩
    exact ih2 2 (fun i => i) (by decide) (by decide) (by rfl) ⟨⟨rfl, by decide⟩, iR, iR, iR, trivial⟩ ⟨⟨rfl, rfl⟩, iR, trivial⟩
   ·refine ⟨⟨h3, by decide, ⟨104, by decide⟩, by decide, by decide, (by show drawOK _ _ = true; decide +kernel), trivial⟩, ?_⟩
    exact ih2 3 (fun i => i) (by decide) (by decide) (by rfl) ⟨⟨rfl, by decide⟩, iR, iR, iR, trivial⟩ ⟨⟨rfl, rfl⟩, iR, trivial⟩
  ·have k1 : ¬ (i : Int) < 3 := of_decide_eq_false k1
   obtain rfl : i = 3 := by omega
   refine ⟨⟨by show (0 : Int) < 1 /\ ((cs.length : Int) + 1) * 72 <= 140737488355328; omega, ⟨by decide, by show (4 : Int) <= ((a :: b :: c :: d :: q).length : Int); omega⟩, trivial⟩, ?_⟩
   refine ih ⟨q, cs ++ [conOf a b c d]⟩ (fun i => bif beqN i 0 then 2 else i) ⟨?_, fun s hs => hi.2.1 s (by simp [hs]), ?_⟩ (by show q.length < q.length + 4; omega) (by rfl) ⟨⟨.inl rfl, rfl, ?_, fun j h0 h1 => ?_⟩, push_imp shC (some 2) 10 cs (conOf a b c d), trivial⟩ ⟨⟨rfl, rfl⟩, trivial⟩
   ·show (cs ++ [conOf a b c d]) ++ consOf q = consOf w
    rw [<- hi.1, List.append_assoc]; rfl
   ·show q.length + (cs ++ [conOf a b c d]).length <= 1000000
    rw [List.length_append, List.length_singleton]; omega
   ·show ((a :: b :: c :: d :: q).length : Int) - 4 = (q.length : Int)
    omega
   ·show (a :: b :: c :: d :: q).getD (4 + j).toNat _ = q.getD j.toNat _
    rw [show (4 + j).toNat = j.toNat + 4 by omega]; rfl
 ·have h : ¬ 4 <= (r.length : Int) := of_decide_eq_false h
  have hr : consOf r = [] := by
   match r, h with
   | a :: b :: c :: d :: q, h => exact absurd (by simp only [List.length_cons]; omega) h
   | [], _ => rfl
   | [_], _ => rfl
   | [_, _], _ => rfl
   | [_, _, _], _ => rfl
  have e : cs = consOf w := by rw [<- hi.1, hr, List.append_nil]
  rw [<- e]
  exact ⟨rfl, .inl rfl, rfl, rfl, fun j _ _ => iR⟩
end Go.Proofs.YtpbjcabecalpaaaGreatDoor

