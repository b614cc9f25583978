/- BACKOFF (6): BackoffEnds, BackoffApart. -/
import Derived.Test.YtdikfhjpnfffnaaBkF
set_option maxRecDepth 2000
set_option linter.unusedVariables false
set_option linter.unusedSimpArgs false
set_option linter.unusedVariables false
set_option linter.unusedSimpArgs false
namespace Go.Abs
theorem PFun.imp {P : Program} {G : Gs} {f : Nat} {args r r' : PV} (h : PFun P G f args r) (hi : impP r r') : PFun P G f args r' := by
  refine ⟨h.1, fun M w vs hG hI hr => (h.2 M w vs hG hI hr).mono ?_⟩
  rintro e w' ⟨M', ρ', v, g', rfl, h1, h2⟩
  exact ⟨M', ρ', v, g', rfl, h1, impP_ok _ _ hi h2⟩
end Go.Abs
namespace Go.Proofs.Ytdikfhjpnfffnaa
open Go Go.Abs Go.Proofs
noncomputable def Fb2 : Table := addS 6 .nil (.tt, []) Fb1
theorem Fb2_ok : TableOK Try.prog G0 Fb2 := addS_ok (⟨Try.func6, rfl, rfl, rfl, ⟨rfl, rfl⟩, ok _⟩ : FN 6 Try.f6).callable (fun _ => first_ok.imp (by exact rfl)) Fb1_ok
abbrev OpV := Int × Int × Int × ByteArray × Unit
def shOp : Sh := .agg (.cons (.int .i64) (.cons (.int .i64) (.cons (.int .i64) (.cons .str .nil))))
def opsP (l : List OpV) : PV := .slice none 4 (fun _ => (l.length : Int)) fun j => shOp.mk fun _ => (l : List shOp.val).getD (j ()).toNat shOp.dflt
def opAt (l : List OpV) (i : Nat) : OpV := l.getD i (0, 0, 0, ByteArray.empty, ())
def longB (l : List OpV) : Bool := l.any fun o => decide (100 < (o.2.2.2.1.size : Int))
def greatB (l : List OpV) : Bool := longB l || decide (80 < (l.length : Int))
def grA (l : List OpV) (i : Nat) : Env := [(7, .int .i64 fun _ => (i : Int)), (6, .int .i64 fun _ => (l.length : Int)), (5, opsP l), (0, opsP l)]
theorem long_take {l : List OpV} {i : Nat} (hi : i < l.length) : longB (l.take (i + 1)) = (longB (l.take i) || decide (100 < ((opAt l i).2.2.2.1.size : Int))) := by
  unfold longB opAt
  rw [List.take_add_one, List.any_append, List.getElem?_eq_getElem hi, List.getD_eq_getElem?_getD, List.getElem?_eq_getElem hi]
  simp
theorem long_mono {l : List OpV} {i : Nat} (hi : i < l.length) (h : 100 < ((opAt l i).2.2.2.1.size : Int)) : longB l = true := by
  unfold longB
  refine List.any_eq_true.2 ⟨opAt l i, ?_, decide_eq_true h⟩
  unfold opAt
  rw [List.getD_eq_getElem?_getD, List.getElem?_eq_getElem hi]
  exact List.getElem_mem hi
theorem great_ok (ops : List OpV) (hl : ops.length ≤ 9223372036854775807) : PF 11 (.cons (opsP ops) .nil) (.bool fun _ => greatB ops) := by
  refine (⟨Try.func11, rfl, rfl, rfl, ⟨rfl, rfl⟩, ok _⟩ : FN 11 Try.f11).treeB (mkM_ok Fb2_ok Hb3_ok) (callB_ok Bb4_ok) false 60 (.any) rfl ?_
  conv => arg 5; cbv
  refine run_inv (ι := Nat) (fun i => ops.length - i) (fun i => i ≤ ops.length ∧ longB (ops.take i) = false) (grA ops) (fun _ => []) 0 0 (fun i => i) (by rfl) (by rfl) ⟨by omega, rfl⟩ ?_ ⟨impP_refl _, impP_refl _, impP_refl _, impP_refl _, trivial⟩ trivial
  intro i hi ih
  refine exploreB_ok (by first | exact ok _ | exact (ok _).at _ | exact (ok _).round _) (mkM_ok Fb2_ok Hb3_ok) (callB_ok Bb4_ok) (u := false) 60 (.any) _ rfl ?_
  conv => arg 5; cbv
  refine ⟨fun h => ?_, fun h => ?_⟩
  · have h : (i : Int) < (ops.length : Int) := of_decide_eq_true h
    have hi2 : i < ops.length := by omega
    refine ⟨⟨⟨Int.natCast_nonneg i, h⟩, trivial⟩, fun h2 => ?_, fun h2 => ?_⟩
    · have h2 : 100 < ((opAt ops i).2.2.2.1.size : Int) := of_decide_eq_true h2
      refine ⟨rfl, ?_⟩
      show greatB ops = true
      unfold greatB
      rw [long_mono hi2 h2]; rfl
    · have h2 : ¬ 100 < ((opAt ops i).2.2.2.1.size : Int) := of_decide_eq_false h2
      have hw : IntKind.i64.wrap ((i : Int) + 1) = ((i + 1 : Nat) : Int) := by rw [IntWalk.i64_in _ ⟨by omega, by omega⟩]; omega
      refine ih (i + 1) (fun i => i) ⟨by omega, ?_⟩ (by omega) (by rfl) ⟨⟨rfl, hw⟩, impP_refl _, impP_refl _, impP_refl _, trivial⟩ trivial
      rw [long_take hi2, hi.2, decide_eq_false h2]; rfl
  · have h : ¬ (i : Int) < (ops.length : Int) := of_decide_eq_false h
    have e : i = ops.length := by omega
    refine ⟨rfl, ?_⟩
    show decide (80 < (ops.length : Int)) = greatB ops
    unfold greatB
    have h2 := hi.2
    rw [e, List.take_length] at h2
    rw [h2]; rfl
noncomputable def Fb3 : Table := addS 11 (.cons (.slice 4 shOp) .nil) (fun l => (.bool fun _ => greatB (l ()), [fun _ => (l ()).length ≤ 9223372036854775807])) Fb2
theorem Fb3_ok : TableOK Try.prog G0 Fb3 := addS_ok (⟨Try.func11, rfl, rfl, rfl, ⟨rfl, rfl⟩, ok _⟩ : FN 11 Try.f11).callable (fun l h => great_ok (l ()) h.1) Fb2_ok
def pB : ByteArray := ⟨⟨[112]⟩⟩
def swap01 : Nat → Nat := fun i => bif beqN i 0 then 1 else bif beqN i 1 then 0 else i
def enA (most : Int) (l : List Int) (x : Nat × RowL) : Env := [(23, .int .i64 fun _ => (x.1 : Int)), (22, .int .i64 fun _ => (l.length : Int)), (21, Sh.mkL 1 (.int .i64) fun _ => l), (5, .ptr 0 0), (0, .int .i64 fun _ => most)]
def clI (n : Int) : Int := if 0 < if 1125899906842624 < n then 1125899906842624 else n then if 1125899906842624 < n then 1125899906842624 else n else 0
theorem clI_in (n : Int) : 0 ≤ clI n ∧ clI n ≤ 1125899906842624 := by
  unfold clI
  split <;> split at * <;> omega
theorem heldI_self {n : Int} (h : 0 ≤ n ∧ n ≤ 1152921504606846976) : heldI n = n := by
  unfold heldI
  rw [if_neg (by omega), if_neg (by omega)]
theorem fail_get (most : Int) (l : RowL) (s : ByteArray) (now : Int) : mGet .str (failL most l s now) s = some ((nf (failsOf l s), heldI now + wt most (failsOf l s), ()) : Int × Int × Unit) := mGet_put rfl _ _ _
theorem ends_ok (most : Int) (fails : List Int) (hl : fails.length ≤ 9223372036854775807) : PF 3 (.cons (i64 most) (.cons (Sh.mkL 1 (.int .i64) fun _ => fails) .nil)) (bo true) := by
  refine (⟨Try.func3, rfl, rfl, rfl, ⟨rfl, rfl⟩, ok _⟩ : FN 3 Try.f3).treeB (mkM_ok Fb2_ok Hb3_ok) (callB_ok Bb4_ok) false 60 (.any) rfl ?_
  conv => arg 5; cbv
  refine ⟨fun h => ⟨fun _ => ⟨rfl, rfl⟩, (fun h => by cases h)⟩, fun h1 => ⟨fun h => ⟨fun _ => ⟨rfl, rfl⟩, (fun h => by cases h)⟩, fun h2 => ⟨(fun h => by cases h), fun _ => ?_⟩⟩⟩
  have h1 : ¬ most < 1 := of_decide_eq_false h1
  have h2 : ¬ 1024 < most := of_decide_eq_false h2
  refine run_inv (ι := Nat × RowL) (fun x => fails.length - x.1) (fun x => x.1 ≤ fails.length ∧ x.1 ≤ 100 ∧ failsOf x.2 pB = (x.1 : Int)) (enA most fails) (fun x => tabS most x.2) 2 (0, []) swap01 (by rfl) (by rfl) ⟨by omega, by omega, rfl⟩ ?_ ⟨impP_refl _, impP_refl _, impP_refl _, impP_refl _, impP_refl _, trivial⟩ ⟨impP_refl _, rfl, trivial⟩
  rintro ⟨i, l⟩ hi ih
  refine exploreB_ok (by first | exact ok _ | exact (ok _).at _ | exact (ok _).round _) (mkM_ok Fb2_ok Hb3_ok) (callB_ok Bb4_ok) (u := false) 60 (.both (.both .any (.no (.no (.no (.no (.no (.no (.no .any)))))))) .any) _ rfl ?_
  conv => arg 5; cbv
  have hv := clI_in (fails.getD (i : Int).toNat 0)
  obtain ⟨i1, i2, i3⟩ := hi
  dsimp only at i1 i2 i3
  refine ⟨fun h => ?_, fun h => ⟨rfl, rfl⟩⟩
  have h : (i : Int) < (fails.length : Int) := of_decide_eq_true h
  refine ⟨⟨⟨Int.natCast_nonneg i, h⟩, trivial⟩, fun h3 => ⟨rfl, rfl⟩, fun h3 => ?_⟩
  have h3 : ¬ (100 : Int) ≤ (i : Int) := of_decide_eq_false h3
  have hw := wt_range (most := most) (f := failsOf l pB) ⟨by omega, by omega⟩ ⟨by omega, by omega⟩
  have hnf : nf (failsOf l pB) = (i : Int) + 1 := by rw [i3]; unfold nf; rw [if_neg (by omega)]
  have hU : untilOf (failL most l pB (clI (fails.getD (i : Int).toNat 0))) pB = clI (fails.getD (i : Int).toNat 0) + wt most (failsOf l pB) := by
    unfold untilOf rowOf
    rw [fail_get, heldI_self ⟨by omega, by omega⟩]; rfl
  have hF : failsOf (failL most l pB (clI (fails.getD (i : Int).toNat 0))) pB = (i : Int) + 1 := by
    unfold failsOf rowOf
    rw [fail_get]; exact hnf
  have hlow : 0 ≤ failsOf l pB ∧ failsOf l pB ≤ 1000000 := ⟨by omega, by omega⟩
  have e8 : IntKind.i64.wrap ((i : Int) + 1) = ((i + 1 : Nat) : Int) := by rw [IntWalk.i64_in _ ⟨by omega, by omega⟩]; omega
  have T1 : decide (wt most (failsOf l pB) < 1) = false := decide_eq_false (by omega)
  have T2 : decide (most < wt most (failsOf l pB)) = false := decide_eq_false (by omega)
  have T3 : decide (untilOf (failL most l pB (clI (fails.getD (i : Int).toNat 0))) pB ≤ heldI (clI (fails.getD (i : Int).toNat 0))) = false := by
    rw [hU, heldI_self ⟨by omega, by omega⟩]; exact decide_eq_false (by omega)
  have T4 : decide (untilOf (failL most l pB (clI (fails.getD (i : Int).toNat 0))) pB ≤ heldI (IntKind.i64.wrap (IntKind.i64.wrap (clI (fails.getD (i : Int).toNat 0) + wt most (failsOf l pB)) - 1))) = false := by
    have ew : IntKind.i64.wrap (clI (fails.getD (i : Int).toNat 0) + wt most (failsOf l pB)) = clI (fails.getD (i : Int).toNat 0) + wt most (failsOf l pB) := IntWalk.i64_in _ ⟨by omega, by omega⟩
    rw [hU, ew, IntWalk.i64_in _ ⟨by omega, by omega⟩, heldI_self ⟨by omega, by omega⟩]; exact decide_eq_false (by omega)
  have T5 : (!decide (untilOf (failL most l pB (clI (fails.getD (i : Int).toNat 0))) pB ≤ heldI (IntKind.i64.wrap (clI (fails.getD (i : Int).toNat 0) + wt most (failsOf l pB))))) = false := by
    rw [hU, IntWalk.i64_in _ ⟨by omega, by omega⟩, heldI_self ⟨by omega, by omega⟩, decide_eq_true (by omega)]; rfl
  have T6 : (!decide (untilOf (failL most l pB (clI (fails.getD (i : Int).toNat 0))) pB ≤ heldI (IntKind.i64.wrap (clI (fails.getD (i : Int).toNat 0) + most)))) = false := by
    rw [hU, IntWalk.i64_in _ ⟨by omega, by omega⟩, heldI_self ⟨by omega, by omega⟩, decide_eq_true (by omega)]; rfl
  have T7 : (failsOf (failL most l pB (clI (fails.getD (i : Int).toNat 0))) pB != IntKind.i64.wrap ((i : Int) + 1)) = false := by
    rw [hF, e8]
    have : ((i + 1 : Nat) : Int) = (i : Int) + 1 := by omega
    rw [this]; simp
  refine ⟨⟨⟨by show 1 ≤ most; omega, by show most ≤ 1024; omega⟩, hlow, trivial⟩, ⟨T1, trivial⟩, ⟨T2, trivial⟩, ⟨T3, trivial⟩, ⟨T4, trivial⟩, ⟨T5, trivial⟩, ⟨T6, trivial⟩, ⟨T7, trivial⟩, ?_⟩
  refine ih (i + 1, failL most l pB (clI (fails.getD (i : Int).toNat 0))) (fun i => i) ⟨by dsimp only; omega, by dsimp only; omega, ?_⟩ (by dsimp only; omega) (by rfl) ⟨⟨rfl, e8⟩, impP_refl _, impP_refl _, impP_refl _, impP_refl _, trivial⟩ ⟨impP_refl _, rfl, trivial⟩
  show failsOf _ pB = ((i + 1 : Nat) : Int)
  rw [hF]; omega
end Go.Proofs.Ytdikfhjpnfffnaa
