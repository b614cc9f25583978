/- berthinglaw40.TopoParts: whatever the input, it answers true. -/
import Derived.Test.YtdikfhjpnfffnaaDoorTopoG
import Derived.Test.YtdikfhjpnfffnaaDoorGc
import Derived.Test.YtdikfhjpnfffnaaDoorCards
import Derived.Test.YtdikfhjpnfffnaaDoorTie
import Derived.WalkKit
import Derived.ProofKit
import Derived.OpenShut
set_option maxRecDepth 2000
set_option linter.unusedVariables false
set_option linter.unusedSimpArgs false
set_option linter.unusedVariables false
set_option linter.unusedSimpArgs false
namespace Go.Proofs.YtdikfhjpnfffnaaDoor
open Go Go.Abs Go.Proofs Go.ChangeShapes Go.WideShapes Go.ChangeAt Go.RowKit
theorem own : ownKnob Tryd.prog.godebug = none := by kernel_rfl
theorem laidOut : laidOutB Tryd.prog = true := by kernel_rfl
theorem G0_ok (W : World) : GOK G0 (memOf W) := fun g => ⟨rfl, _, rfl⟩
theorem ts_top : TS Tryd.prog shTop (.inl 23) := by
  refine ⟨_, Tryd.underlying23, by kernel_rfl, ?_⟩
  exact ⟨rfl, by kernel_rfl, (show Tryd.prog.underlying _ = _ by kernel_rfl), rfl, by kernel_rfl, (show Tryd.prog.underlying _ = _ by kernel_rfl), rfl, by kernel_rfl, (show Tryd.prog.underlying _ = _ by kernel_rfl), trivial⟩
theorem top_calls (W : World) {H : Type} {enc : TypeId × Value → H} {v : Value} {fuel : Nat} {y : DataW H × List MemPlace} (hc : ∃ cs, v = .agg cs) (h : DataW.trod enc Tryd.prog W 0 (fun _ => true) true fuel 23 v.cells.toList = some y)
    {f : Nat} (hf : ∀ (s c t : Int), PF f (.cons (top s c t) .nil) .tt) :
    Calls Tryd.prog f #[v] W fun e W' => e = .returned (.bool true) ∧ Below W.heap.size W W' := by
  obtain ⟨x, hx, hr⟩ := open_sh shTop _ ts_top fuel _ y h
  obtain ⟨cs, rfl⟩ := hc
  obtain ⟨s, c, t, _⟩ := x
  have hr := wide_rel (pv := top s c t) rfl (hr noNames)
  have e : (Value.agg cs).cells.toList.toArray = cs := rfl
  rw [e] at hr
  exact law_calls (vs := [.agg cs]) (hf s c t) (G0_ok W) (.inr ⟨rfl, _, [], rfl, hr, by simp, rfl⟩)
/-- What the walk gives, for every argument. -/
theorem contract (H : Type) (enc : TypeId × Value → H) (W : World) (base : Nat) (args : Array Value) (ds gs : List (DataW H)) (before : List MemPlace)
    (hval : ∀ (j : Nat) t v, Tryd.f5.params[j]? = some t → args[j]? = some v → Value.okWide Tryd.prog W .any base t v)
    (hW : DataW.Whole enc Tryd.prog Tryd.f5.params.toList Rows.topoPartsSpec.vars false W args.toList ds gs before) :
    Calls Tryd.prog 5 args W fun e W' => ∃ v, e = .returned v ∧ Rows.topoPartsSpec.post enc Tryd.prog Tryd.f5 false true false false W args v W' := by
  have hW' := hW
  obtain ⟨p, q, hA0, hV, rfl, hfz, hnd⟩ := hW
  have hA : DataW.TrodAll enc Tryd.prog W 0 (fun _ => true) true Tryd.f5.params.toList args.toList ds p := hA0
  rw [Tryd.params5] at hA hval
  obtain ⟨v0, vs0, d0, ds0, p0, q0, hargs, rfl, rfl, h0, r0⟩ := trodAll_cons hA
  obtain ⟨rfl, rfl, rfl⟩ := trodAll_nil r0
  obtain rfl : args = #[v0] := by cases args; simp_all
  obtain ⟨fuel, h0⟩ := h0
  have hv := hval 0 23 v0 rfl rfl
  have hc : ∃ cs, v0 = .agg cs := by
    unfold Value.okWide at hv
    rw [Tryd.underlying23] at hv
    obtain ⟨cs, h, _⟩ := hv
    exact ⟨cs, h⟩
  refine (top_calls W hc h0 fun s c t => parts_ok s c t).mono fun e W' ⟨he, hB⟩ => ?_
  subst he
  exact ⟨_, rfl, law_post (tb := 4) hW' rfl laidOut (by kernel_rfl) rfl (by kernel_rfl) (by kernel_rfl) hB⟩

/-! ### A world for the witness -/
def relay (l : List Int) (k : IntKind) : Obj → Obj
  | .cells _ t frozen => .cells (l.map fun n => Value.int k n).toArray t frozen
  | o => o
def ints {H : Type} : DataW H → List Int
  | .agg l => l.map fun
    | .lit (.int _ n) => n
    | _ => 0
  | _ => []
noncomputable def laidWorld (os : Os) : World :=
  { World.holding Tryd.prog os ⟨#[], #[], []⟩ with heap := (((World.holding Tryd.prog os ⟨#[], #[], []⟩).heap.modify 2 (relay (ints (H := Unit) Rows.laid_math_bits_deBruijn32tab) .u8)).modify 3 (relay (ints (H := Unit) Rows.laid_math_bits_deBruijn64tab) .u8)).modify 0 (relay (ints (H := Unit) Rows.laid_internal_strconv_uint64pow10) .u64) }
def caseV : Value := .agg #[.int .i64 0, .int .i64 0, .int .i64 0]
def caseD {H : Type} : DataW H := .agg [.lit (.int .i64 0), .lit (.int .i64 0), .lit (.int .i64 0)]
theorem laid_met (os : Os) : laidMet Tryd.prog Rows.topoPartsRow.laid ((laidWorld os).forCall (fun _ _ => 0) ⟨#[], #[caseV], []⟩).memory :=
  laidMet_of_run' 8 (by kernel_rfl) (by kernel_rfl)
theorem reads (os : Os) {H : Type} (enc : TypeId × Value → H) : ∃ places, DataW.whole enc Tryd.prog ((laidWorld os).forCall (fun _ _ => 0) ⟨#[], #[caseV], []⟩).memory Tryd.f5.params.toList Rows.topoPartsSpec.vars false #[caseV].toList 8 = some ([caseD], [], places) :=
  ⟨[], by kernel_rfl⟩
set_option maxRecDepth 100000 in
theorem lifted (os : Os) (started : os.Started) (H : Type) (enc : TypeId × Value → H) (F : Stop.Interp) :
    ReturnsInHanded {} Tryd.checked os 5 .any ((OpenSpec.ofChange Rows.topoPartsSpec).preRow enc Tryd.prog Tryd.f5 Rows.topoPartsRow.domain false Rows.topoPartsRow.laid) (((OpenSpec.ofChange Rows.topoPartsSpec).at F).post enc Tryd.prog Tryd.f5 false true false false) := by
  obtain ⟨places, hx⟩ := reads os enc
  refine returnsInHanded_of_row (C := Tryd.checked) (s := OpenSpec.ofChange Rows.topoPartsSpec) own started (by kernel_rfl) Tryd.func5
    (witness_row_at (enc := enc) (C := Tryd.checked) false (laidWorld os) #[caseV] rfl (by kernel_rfl) (by kernel_rfl) (by kernel_rfl)
      (OpenSpec.preRow_of_cond 8 hx (by kernel_rfl) (fun k hk => by cases hk) (by kernel_rfl) (laid_met os))) ?_
  intro W base args ds gs before hval hW _ _ _ hL _ _
  exact contract H enc W base args ds gs before hval hW
theorem said : Rows.TopoPartsSaid :=
  OpenClaim.holds_of_cond 5 Tryd.f5 rfl rfl rfl rfl rfl rfl rfl ⟨rfl, rfl, rfl, rfl, rfl⟩ rfl rfl rfl rfl rfl (by kernel_rfl) Tryd.func5 (by kernel_rfl)
    (of_decide_eq_true (by kernel_rfl)) (by unfold Func.isWrapper; first | (rw [if_pos (by decide +kernel)]; kernel_rfl) | (rw [if_neg (by decide +kernel)]; exact ⟨rfl, rfl⟩))
    (fun os started H enc _ F => by rw [OpenClaim.pre_eq_preRow]; exact lifted os started H enc F)
theorem plain (f : FuncId) (fn : Func) (hf : Tryd.pinned.checked.prog.funcNamed "berthing/berthinglaw40.TopoParts" = some f) (hfn : Tryd.pinned.checked.prog.funcs[f]? = some fn) :
    false = Tryd.pinned.checked.prog.looks [] ∧ ∀ (j : Nat) t, fn.params[j]? = some t → Tryd.pinned.checked.prog.wantsStandIn t = false := by
  obtain rfl : f = 5 := Option.some.inj ((show Tryd.prog.funcNamed "berthing/berthinglaw40.TopoParts" = some 5 by kernel_rfl).symm.trans hf) |>.symm
  obtain rfl : fn = Tryd.f5 := (Option.some.inj (Tryd.func5.symm.trans hfn)).symm
  refine ⟨by kernel_rfl, fun j t ht => ?_⟩
  rw [Tryd.params5] at ht
  obtain rfl : t = 23 := by simpa using Array.mem_of_getElem? ht
  exact (show Tryd.prog.wantsStandIn 23 = false by kernel_rfl)
theorem card : Rows.TopoPartsCardSaid :=
  Claim7.holds_tied_plain_at .later [] _ _ _ _ said (fun _ h => by cases h) (by kernel_rfl) (fun _ h => by cases h) topoParts_row_tie rfl ⟨rfl, rfl⟩ (by kernel_rfl) rfl plain (by kernel_rfl)
end Go.Proofs.YtdikfhjpnfffnaaDoor
