/- BACKOFF (7): BackoffApart. -/
import Derived.Test.YtdikfhjpnfffnaaBkG
set_option maxRecDepth 2000
set_option linter.unusedVariables false
set_option linter.unusedSimpArgs false
set_option linter.unusedVariables false
set_option linter.unusedSimpArgs false
namespace Go.Proofs.Ytdikfhjpnfffnaa
open Go Go.Abs Go.Proofs
theorem great_of (ops : List OpV) : (rdL shOp.rd (fun _ => (ops.length : Int)) fun j => shOp.mk fun _ => (ops : List shOp.val).getD (j ()).toNat shOp.dflt) = (ops : List shOp.val) := rdL_mkL shOp ops
def okF (l : RowL) : Prop := ∀ s, 0 ≤ failsOf l s ∧ failsOf l s ≤ 1000000
theorem okF_nil : okF [] := fun s => ⟨Int.le_refl 0, by show (0 : Int) ≤ 1000000; decide⟩
theorem rowOf_del (l : RowL) (s s' : ByteArray) (h : s ≠ s') : rowOf (mDel .str l s) s' = rowOf l s' := congrArg (fun o : Option shRow.val => o.getD z0) (mGet_del_ne (k := .str) rfl h l)
theorem rowOf_fail_eq (most : Int) (l : RowL) (s : ByteArray) (now : Int) : rowOf (failL most l s now) s = ((nf (failsOf l s), heldI now + wt most (failsOf l s), ()) : Int × Int × Unit) :=
  congrArg (fun o : Option shRow.val => o.getD z0) (mGet_put (k := .str) rfl s _ l)
theorem rowOf_fail_ne (most : Int) (l : RowL) (s s' : ByteArray) (now : Int) (e : s ≠ s') : rowOf (failL most l s now) s' = rowOf l s' :=
  congrArg (fun o : Option shRow.val => o.getD z0) (mGet_put_ne (k := .str) rfl e _ l)
theorem okF_fail {most : Int} {l : RowL} {s : ByteArray} {now : Int} (h : okF l) : okF (failL most l s now) := fun s' => by
  have hn := nf_range (h s)
  unfold failsOf
  by_cases e : s = s'
  · subst e
    rw [rowOf_fail_eq]
    exact ⟨by show 0 ≤ nf (failsOf l s); omega, hn.2⟩
  · rw [rowOf_fail_ne most l s s' now e]
    exact h s'
theorem okF_del {l : RowL} {s : ByteArray} (hd : (l.map (·.1)).Nodup) (h : okF l) : okF (mDel .str l s) := fun s' => by
  by_cases e : s = s'
  · subst e
    have hr : rowOf (mDel .str l s) s = z0 := congrArg (fun o : Option shRow.val => o.getD z0) (mGet_del (k := .str) rfl s hd)
    unfold failsOf
    rw [hr]
    exact ⟨Int.le_refl 0, by show (0 : Int) ≤ 1000000; decide⟩
  · unfold failsOf
    rw [rowOf_del l s s' e]
    exact h s'
def apA (ops : List OpV) (name : ByteArray) (i : Nat) : Env := [(36, .int .i64 fun _ => (i : Int)), (35, .int .i64 fun _ => (ops.length : Int)), (34, opsP ops), (7, .ptr 0 0), (2, .str fun _ => name)]
theorem apart_ok (most : Int) (ops : List OpV) (name : ByteArray) (hl : ops.length ≤ 9223372036854775807) : PF 4 (.cons (i64 most) (.cons (opsP ops) (.cons (.str fun _ => name) .nil))) (bo true) := by
  refine (⟨Try.func4, rfl, rfl, rfl, ⟨rfl, rfl⟩, ok _⟩ : FN 4 Try.f4).treeB (mkM_ok Fb3_ok Hb3_ok) (callB_ok Bb4_ok) false 60 (.any) rfl ?_
  conv => arg 5; cbv
  refine ⟨⟨?_, fun j => fits_of_mk _ _, trivial⟩, fun _ => ⟨rfl, rfl⟩, fun _ => ⟨fun _ => ⟨rfl, rfl⟩, fun _ => ⟨fun h => ⟨fun _ => ⟨rfl, rfl⟩, (fun h => by cases h)⟩, fun h1 => ⟨fun h => ⟨fun _ => ⟨rfl, rfl⟩, (fun h => by cases h)⟩, fun h2 => ⟨(fun h => by cases h), fun _ => ?_⟩⟩⟩⟩⟩
  · show List.length (rdL shOp.rd _ _) ≤ _
    exact (congrArg List.length (great_of ops)).symm ▸ hl
  have h1 : ¬ most < 1 := of_decide_eq_false h1
  have h2 : ¬ 1024 < most := of_decide_eq_false h2
  have hm : 1 ≤ most ∧ most ≤ 1024 := ⟨by omega, by omega⟩
  refine ⟨⟨hm, okF_nil name, trivial⟩, ?_⟩
  refine run_inv (ι := Nat × RowL) (fun x => ops.length - x.1) (fun x => x.1 ≤ ops.length ∧ okF x.2 ∧ (x.2.map (·.1)).Nodup) (fun x => apA ops name x.1) (fun x => tabS most x.2) 2 (0, failL most [] name 5) swap01 (by rfl) (by rfl) ⟨by dsimp only; omega, okF_fail okF_nil, mPut_nodup (k := .str) (l := []) rfl _ _ List.nodup_nil⟩ ?_ ⟨impP_refl _, impP_refl _, impP_refl _, impP_refl _, impP_refl _, trivial⟩ ⟨impP_refl _, rfl, trivial⟩
  rintro ⟨i, l⟩ hi ih
  refine exploreB_ok (by first | exact ok _ | exact (ok _).at _ | exact (ok _).round _) (mkM_ok Fb3_ok Hb3_ok) (callB_ok Bb4_ok) (u := false) 60 (.both (.both (.both (.no (.no .any)) .any) (.both (.no (.no .any)) .any)) .any) _ rfl ?_
  conv => arg 5; cbv
  obtain ⟨i1, i2, i3⟩ := hi
  dsimp only at i1 i2 i3
  refine ⟨fun h => ?_, fun h => ⟨rfl, rfl⟩⟩
  have h : (i : Int) < (ops.length : Int) := of_decide_eq_true h
  have e8 : IntKind.i64.wrap ((i : Int) + 1) = ((i + 1 : Nat) : Int) := by rw [IntWalk.i64_in _ ⟨by omega, by omega⟩]; omega
  have hdel : ∀ s, s ≠ name → (failsOf (mDel .str l s) name != failsOf l name) = false ∧ (untilOf (mDel .str l s) name != untilOf l name) = false := fun s hs => by
    unfold failsOf untilOf
    rw [rowOf_del l s name hs]; exact ⟨bne_self_eq_false (α := Int) _, bne_self_eq_false (α := Int) _⟩
  have hfl : ∀ s n, s ≠ name → (failsOf (failL most l s n) name != failsOf l name) = false ∧ (untilOf (failL most l s n) name != untilOf l name) = false := fun s n hs => by
    unfold failsOf untilOf
    rw [rowOf_fail_ne most l s name n hs]; exact ⟨bne_self_eq_false (α := Int) _, bne_self_eq_false (α := Int) _⟩
  have goD : ∀ s, okF (mDel .str l s) ∧ ((mDel .str l s).map (·.1)).Nodup := fun s => ⟨okF_del i3 i2, mDel_nodup (k := .str) rfl s i3⟩
  have goF : ∀ s n, okF (failL most l s n) ∧ ((failL most l s n).map (·.1)).Nodup := fun s n => ⟨okF_fail i2, mPut_nodup (k := .str) rfl _ _ i3⟩
  refine ⟨⟨⟨Int.natCast_nonneg i, h⟩, trivial⟩, fun _ => ⟨fun hn => ?_, fun hn => ?_⟩, fun _ => ⟨⟨hm, i2 _, trivial⟩, fun hn => ?_, fun hn => ?_⟩⟩
  · have hn := hdel (opAt ops i).2.2.2.1 (of_decide_eq_true (p := ¬ (opAt ops i).2.2.2.1 = name) hn)
    refine ⟨⟨hn.1, trivial⟩, ⟨hn.2, trivial⟩, ?_⟩
    exact ih (i + 1, mDel .str l _) (fun i => i) ⟨by dsimp only; omega, goD _⟩ (by dsimp only; omega) (by rfl) ⟨⟨rfl, e8⟩, impP_refl _, impP_refl _, impP_refl _, impP_refl _, trivial⟩ ⟨impP_refl _, rfl, trivial⟩
  · exact ih (i + 1, mDel .str l _) (fun i => i) ⟨by dsimp only; omega, goD _⟩ (by dsimp only; omega) (by rfl) ⟨⟨rfl, e8⟩, impP_refl _, impP_refl _, impP_refl _, impP_refl _, trivial⟩ ⟨impP_refl _, rfl, trivial⟩
  · have hn := hfl (opAt ops i).2.2.2.1 ((opAt ops i).2.2.1) (of_decide_eq_true (p := ¬ (opAt ops i).2.2.2.1 = name) hn)
    refine ⟨⟨hn.1, trivial⟩, ⟨hn.2, trivial⟩, ?_⟩
    exact ih (i + 1, failL most l _ _) (fun i => i) ⟨by dsimp only; omega, goF _ _⟩ (by dsimp only; omega) (by rfl) ⟨⟨rfl, e8⟩, impP_refl _, impP_refl _, impP_refl _, impP_refl _, trivial⟩ ⟨impP_refl _, rfl, trivial⟩
  · exact ih (i + 1, failL most l _ _) (fun i => i) ⟨by dsimp only; omega, goF _ _⟩ (by dsimp only; omega) (by rfl) ⟨⟨rfl, e8⟩, impP_refl _, impP_refl _, impP_refl _, impP_refl _, trivial⟩ ⟨impP_refl _, rfl, trivial⟩
end Go.Proofs.Ytdikfhjpnfffnaa
