/- BACKOFF (5): first. -/
import Derived.Test.YtdikfhjpnfffnaaBkP
set_option maxRecDepth 2000
set_option linter.unusedVariables false
set_option linter.unusedSimpArgs false
set_option linter.unusedVariables false
set_option linter.unusedSimpArgs false
namespace Go.Proofs.Ytdikfhjpnfffnaa
open Go Go.Abs Go.Proofs
def namesE (args : PV) (g : Sto) : Option SRes := match args with
  | .cons p (.cons (.int .i64 n) .nil) => onTab p g fun id m most l => some { ids := [id, m], args := .cons (.ptr 0 0) (.cons (.int .i64 n) .nil), S := tabT most l, r := Sh.mkL 1 .str fun _ => (sortedN (l ())).take (n ()).toNat, W := tabT most l, C := [fun _ => ∀ x ∈ l (), (x.1 : ByteArray).size ≤ Go.maxLen, fun _ => (l ()).length ≤ 1000000] }
  | _ => none
theorem namesE_ok {args : PV} {g : Sto} {x : SRes} (h : namesE args g = some x) : SGood Try.prog G0 14 args g x := by
  unfold namesE at h
  split at h
  · obtain ⟨id, m, most, l, rfl, ho, hm, h⟩ := onTab_eq h
    obtain rfl := Option.some.inj h
    exact ⟨fun hC => names_ok (most ()) (l ()) _ hC.1 hC.2.1, impP_refl _, tab_st ho hm⟩
  · cases h
noncomputable def Hb3 : STable := addM 14 namesE Hb2
theorem Hb3_ok : STableOK Try.prog G0 Hb3 := addM_ok (fun _ _ _ h => namesE_ok h) Hb2_ok
theorem fl_keys : ∀ x ∈ ([(⟨⟨[112]⟩⟩, ((5, 14, ()) : Int × Int × Unit))] : RowL), (x.1 : ByteArray).size ≤ Go.maxLen := by
  intro x hx
  obtain rfl := List.mem_singleton.1 hx
  decide
theorem fl_sorted : ((sortedN ([(⟨⟨[112]⟩⟩, ((5, 14, ()) : Int × Int × Unit))] : RowL)).take 9).length = 1 := by simp [sortedN, keysL]
theorem first_ok : PF 6 .nil (bo true) := by
  refine (⟨Try.func6, rfl, rfl, rfl, ⟨rfl, rfl⟩, ok _⟩ : FN 6 Try.f6).treeB (mkM_ok Fb1_ok Hb3_ok) (callB_ok Bb4_ok) true 60 (.no (.no (.yes (.yes (.yes (.yes (.yes (.yes (.no (.yes (.yes (.yes (.yes (.yes (.yes (.yes .any)))))))))))))))) rfl ?_
  conv => arg 5; cbv
  (repeat' (first | exact trivial | (show drawOK _ _ = true; decide +kernel) | refine ⟨?_, ?_⟩ | decide +kernel | (dsimp only; decide +kernel)))
  all_goals first | exact fl_keys | exact congrArg (fun n : Nat => ((n : Int) == 1)) fl_sorted | exact (show (_ : Bool) = true by decide +kernel)
end Go.Proofs.Ytdikfhjpnfffnaa
