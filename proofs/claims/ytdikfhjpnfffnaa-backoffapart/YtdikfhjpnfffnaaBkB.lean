/- BACKOFF (2): the table's functions at their calls. -/
import Derived.Test.YtdikfhjpnfffnaaBkA
import Derived.Test.YtdikfhjpnfffnaaGc
import Derived.Test.YtdikfhjpnfffnaaGd
set_option maxRecDepth 2000
set_option linter.unusedVariables false
set_option linter.unusedSimpArgs false
set_option maxRecDepth 2000
set_option linter.unusedVariables false
set_option linter.unusedSimpArgs false
set_option linter.unusedVariables false
set_option linter.unusedSimpArgs false
namespace Go.Proofs.Ytdikfhjpnfffnaa
open Go Go.Abs Go.Proofs
/-- A table, by its two objects. -/
def onTab {α : Type} (p : PV) (g : Sto) (f : Nat → Nat → (Unit → Int) → (Unit → RowL) → Option α) : Option α := match p with
  | .ptr id 0 => match g id with
    | some (.var (.agg (.cons (.int .i64 most) (.cons (.map m) .nil)))) => match g m with
      | some (.map .str (.agg (.cons (.int .i64) (.cons (.int .i64) .nil))) l) => f id m most l
      | _ => none
    | _ => none
  | _ => none
theorem onTab_eq {α : Type} {p : PV} {g : Sto} {f : Nat → Nat → (Unit → Int) → (Unit → RowL) → Option α} {x : α} (h : onTab p g f = some x) :
    ∃ id m most l, p = .ptr id 0 ∧ g id = some (.var (.agg (.cons (.int .i64 most) (.cons (.map m) .nil)))) ∧ g m = some (.map .str shRow l) ∧ f id m most l = some x := by
  unfold onTab at h
  split at h
  · split at h
    · rename_i most m ho
      split at h
      · rename_i l hm
        exact ⟨_, _, _, _, rfl, ho, hm, h⟩
      · cases h
    · cases h
  · cases h
def tabT (most : Unit → Int) (l : Unit → RowL) : Store := [(0, .var (.agg (.cons (.int .i64 most) (.cons (.map 1) .nil)))), (1, .map .str shRow l)]
theorem tab_st {g : Sto} {id m : Nat} {most : Unit → Int} {l : Unit → RowL} (ho : g id = some (.var (.agg (.cons (.int .i64 most) (.cons (.map m) .nil))))) (hm : g m = some (.map .str shRow l)) : impG (sig [id, m]) g (tabT most l) := by
  refine ⟨?_, ?_, trivial⟩
  · show impO _ (g id) _
    rw [ho]; exact impP_refl (.agg (.cons (.int .i64 most) (.cons (.map m) .nil)))
  · show impO _ (g m) _
    rw [hm]; exact rfl
def failE (args : PV) (g : Sto) : Option SRes := match args with
  | .cons p (.cons (.str s) (.cons (.int .i64 now) .nil)) => onTab p g fun id m most l => some { ids := [id, m], args := .cons (.ptr 0 0) (.cons (.str s) (.cons (.int .i64 now) .nil)), S := tabT most l, r := .int .i64 fun _ => wt (most ()) (failsOf (l ()) (s ())), W := tabT most fun _ => failL (most ()) (l ()) (s ()) (now ()), C := [fun _ => 1 ≤ most () ∧ most () ≤ 1024, fun _ => 0 ≤ failsOf (l ()) (s ()) ∧ failsOf (l ()) (s ()) ≤ 1000000] }
  | _ => none
theorem failE_ok {args : PV} {g : Sto} {x : SRes} (h : failE args g = some x) : SGood Try.prog G0 8 args g x := by
  unfold failE at h
  split at h
  · obtain ⟨id, m, most, l, rfl, ho, hm, h⟩ := onTab_eq h
    obtain rfl := Option.some.inj h
    exact ⟨fun hC => fail_ok (most ()) (l ()) _ _ hC.1 hC.2.1, impP_refl _, tab_st ho hm⟩
  · cases h
noncomputable def Hb1 : STable := addM 8 failE emptyS
theorem Hb1_ok : STableOK Try.prog G0 Hb1 := addM_ok (fun _ _ _ h => failE_ok h) emptyS_ok
noncomputable def Bb1 : BTable := (addI 12 (ctx Try.f12) (mkM Fb1 Hb1) (callB emptyB) false (body Try.f12) 60 (addI 10 (ctx Try.f10) (mkM Fb1 Hb1) (callB emptyB) false (body Try.f10) 60 (addI 13 (ctx Try.f13) (mkM Fb1 Hb1) (callB emptyB) false (body Try.f13) 60 (addI 7 (ctx Try.f7) (mkM Fb1 Hb1) (callB emptyB) false (body Try.f7) 60 emptyB))))
theorem Bb1_ok : BTableOK Try.prog G0 Bb1 := (addI_ok (⟨Try.func12, rfl, rfl, rfl, ⟨rfl, rfl⟩, ok _⟩ : FN 12 Try.f12) (mkM_ok Fb1_ok Hb1_ok) (callB_ok emptyB_ok) (addI_ok (⟨Try.func10, rfl, rfl, rfl, ⟨rfl, rfl⟩, ok _⟩ : FN 10 Try.f10) (mkM_ok Fb1_ok Hb1_ok) (callB_ok emptyB_ok) (addI_ok (⟨Try.func13, rfl, rfl, rfl, ⟨rfl, rfl⟩, ok _⟩ : FN 13 Try.f13) (mkM_ok Fb1_ok Hb1_ok) (callB_ok emptyB_ok) (addI_ok (⟨Try.func7, rfl, rfl, rfl, ⟨rfl, rfl⟩, ok _⟩ : FN 7 Try.f7) (mkM_ok Fb1_ok Hb1_ok) (callB_ok emptyB_ok) emptyB_ok))))
noncomputable def Bb2 : BTable := (addI 9 (ctx Try.f9) (mkM Fb1 Hb1) (callB Bb1) false (body Try.f9) 60 Bb1)
theorem Bb2_ok : BTableOK Try.prog G0 Bb2 := (addI_ok (⟨Try.func9, rfl, rfl, rfl, ⟨rfl, rfl⟩, ok _⟩ : FN 9 Try.f9) (mkM_ok Fb1_ok Hb1_ok) (callB_ok Bb1_ok) Bb1_ok)
end Go.Proofs.Ytdikfhjpnfffnaa
