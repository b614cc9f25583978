/- berthinglaw39.CpusetTells: whatever the input, it answers true. -/
import Derived.Test.YtdikfhjpnfffnabDoorCsH
import Derived.Test.YtdikfhjpnfffnabDoorCsRow
set_option maxRecDepth 2000
set_option linter.unusedVariables false
set_option linter.unusedSimpArgs false
set_option linter.unusedVariables false
set_option linter.unusedSimpArgs false
namespace Go.Proofs.YtdikfhjpnfffnabDoor
open Go Go.Abs Go.Proofs Go.ChangeShapes Go.WideShapes Go.ChangeAt Go.RowKit
def shCase : Sh := .agg (.cons shSet (.cons shSet (.cons (.int .i64) (.cons (.int .i64) (.cons (.int .i64) (.cons (.int .i64) .nil))))))
theorem ts_case : TS Tryd.prog shCase (.inl 44) := by
  refine ⟨_, Tryd.underlying44, by kernel_rfl, ?_⟩
  exact ⟨rfl, by kernel_rfl, ts_set, rfl, by kernel_rfl, ts_set, rfl, by kernel_rfl, (show Tryd.prog.underlying _ = _ by kernel_rfl), rfl, by kernel_rfl, (show Tryd.prog.underlying _ = _ by kernel_rfl), rfl, by kernel_rfl, (show Tryd.prog.underlying _ = _ by kernel_rfl), rfl, by kernel_rfl, (show Tryd.prog.underlying _ = _ by kernel_rfl), trivial⟩
theorem read_case {W : World} {H : Type} {enc : TypeId × Value → H} {v : Value} {fuel : Nat} {y : DataW H × List MemPlace} (hv : Value.okWide Tryd.prog W .any 0 44 v) (h : DataW.trod enc Tryd.prog W 0 (fun _ => true) true fuel 44 v.cells.toList = some y) :
    ∃ (a b : List Int) (n f t m : Int), okSet a ∧ f ≤ 9223372036854775807 ∧ rel (memOf W) (casP a b n f t m) noNames .val [v] := by
  obtain ⟨x, hx, hr⟩ := open_sh shCase _ ts_case fuel _ y h
  have hc : ∃ cs, v = .agg cs := by
    unfold Value.okWide at hv
    rw [Tryd.underlying44] at hv
    obtain ⟨cs, h, _⟩ := hv
    exact ⟨cs, h⟩
  obtain ⟨cs, rfl⟩ := hc
  obtain ⟨a, b, n, f, t, m, _⟩ := x
  obtain ⟨ha, _, _, hf, _⟩ := hx
  have hr := wide_rel (pv := casP a b n f t m) rfl (hr noNames)
  have e : (Value.agg cs).cells.toList.toArray = cs := rfl
  rw [e] at hr
  exact ⟨a, b, n, f, t, m, okSet_of ha, (i64_of hf).2, hr⟩
/-- What the walk gives, for every argument. -/
theorem contract (H : Type) (enc : TypeId × Value → H) (W : World) (base : Nat) (args : Array Value) (ds gs : List (DataW H)) (before : List MemPlace)
    (hL : laidMetH Tryd.prog rowLaid W) (hS : W.ShapedOpen Tryd.prog)
    (hval : ∀ (j : Nat) t v, Tryd.f6.params[j]? = some t → args[j]? = some v → Value.okWide Tryd.prog W .any base t v)
    (hW : DataW.Whole enc Tryd.prog Tryd.f6.params.toList Rows.cpusetTellsSpec.vars false W args.toList ds gs before) :
    Calls Tryd.prog 6 args W fun e W' => ∃ v, e = .returned v ∧ Rows.cpusetTellsSpec.post enc Tryd.prog Tryd.f6 false true false false W args v W' := by
  have hW' := hW
  obtain ⟨p, q, hA0, hV, rfl, hfz, hnd⟩ := hW
  have hA : DataW.TrodAll enc Tryd.prog W 0 (fun _ => true) true Tryd.f6.params.toList args.toList ds p := hA0
  rw [Tryd.params6] at hA hval
  obtain ⟨v0, vs0, d0, ds0, p0, q0, hargs, rfl, rfl, h0, r0⟩ := trodAll_cons hA
  obtain ⟨rfl, rfl, rfl⟩ := trodAll_nil r0
  obtain rfl : args = #[v0] := by cases args; simp_all
  obtain ⟨fuel0, h0⟩ := h0
  obtain ⟨a, b, n, f, t, m, ha, hfm, ra⟩ := read_case (hval 0 44 v0 rfl rfl) h0
  have hc := law_calls (vs := [v0]) (tells_ok a b ha n f t m hfm) (facts_row hL hS) (.inr ⟨rfl, _, _, rfl, ra, by simp, rfl⟩)
  refine hc.mono fun e W' ⟨he, hB⟩ => ?_
  subst he
  exact ⟨_, rfl, law_post (tb := 4) hW' rfl laidOut (by kernel_rfl) rfl (by kernel_rfl) (by kernel_rfl) hB⟩
def args0 : Array Value := #[.agg #[.int .u64 0, .int .u64 0, .int .u64 0, .int .u64 0, .int .u64 0, .int .u64 0, .int .u64 0, .int .u64 0, .int .i64 0, .int .i64 0, .int .i64 0, .int .i64 0]]
def data0 {H : Type} : List (DataW H) := [.agg [.agg [.lit (.int .u64 0), .lit (.int .u64 0), .lit (.int .u64 0), .lit (.int .u64 0)], .agg [.lit (.int .u64 0), .lit (.int .u64 0), .lit (.int .u64 0), .lit (.int .u64 0)], .lit (.int .i64 0), .lit (.int .i64 0), .lit (.int .i64 0), .lit (.int .i64 0)]]
theorem reads (os : Os) {H : Type} (enc : TypeId × Value → H) : ∃ places, DataW.whole enc Tryd.prog ((laidWorld os).forCall (fun _ _ => 0) ⟨#[], args0, []⟩).memory Tryd.f6.params.toList Rows.cpusetTellsSpec.vars false args0.toList 8 = some (data0, [], places) :=
  ⟨[], by kernel_rfl⟩
set_option maxRecDepth 100000 in
theorem lifted (os : Os) (started : os.Started) (H : Type) (enc : TypeId × Value → H) (F : Stop.Interp) :
    ReturnsInHanded {} Tryd.checked os 6 .any ((OpenSpec.ofChange Rows.cpusetTellsSpec).preRow enc Tryd.prog Tryd.f6 Rows.cpusetTellsRow.domain false Rows.cpusetTellsRow.laid) (((OpenSpec.ofChange Rows.cpusetTellsSpec).at F).post enc Tryd.prog Tryd.f6 false true false false) := by
  obtain ⟨places, hx⟩ := reads os enc
  refine returnsInHanded_of_row (C := Tryd.checked) (s := OpenSpec.ofChange Rows.cpusetTellsSpec) own started (by kernel_rfl) Tryd.func6
    (witness_row_at (enc := enc) (C := Tryd.checked) false (laidWorld os) args0 rfl (by kernel_rfl) (by kernel_rfl) (by kernel_rfl)
      (OpenSpec.preRow_of_cond 8 hx (by kernel_rfl) (fun k hk => by cases hk) (by kernel_rfl) (laid_met os args0))) ?_
  intro W base args ds gs before hval hW _ _ _ hL hS _
  exact contract H enc W base args ds gs before hL hS hval hW
theorem said : Rows.CpusetTellsSaid :=
  OpenClaim.holds_of_cond 6 Tryd.f6 rfl rfl rfl rfl rfl rfl rfl ⟨rfl, rfl, rfl, rfl, rfl⟩ rfl rfl rfl rfl rfl (by kernel_rfl) Tryd.func6 (by kernel_rfl)
    (of_decide_eq_true (by kernel_rfl)) (by unfold Func.isWrapper; first | (rw [if_pos (by decide +kernel)]; kernel_rfl) | (rw [if_neg (by decide +kernel)]; exact ⟨rfl, rfl⟩))
    (fun os started H enc _ F => by rw [OpenClaim.pre_eq_preRow]; exact lifted os started H enc F)
theorem plain (f : FuncId) (fn : Func) (hf : Tryd.pinned.checked.prog.funcNamed "berthing/berthinglaw39.CpusetTells" = some f) (hfn : Tryd.pinned.checked.prog.funcs[f]? = some fn) :
    false = Tryd.pinned.checked.prog.looks [] ∧ ∀ (j : Nat) t, fn.params[j]? = some t → Tryd.pinned.checked.prog.wantsStandIn t = false := by
  obtain rfl : f = 6 := Option.some.inj ((show Tryd.prog.funcNamed "berthing/berthinglaw39.CpusetTells" = some 6 by kernel_rfl).symm.trans hf) |>.symm
  obtain rfl : fn = Tryd.f6 := (Option.some.inj (Tryd.func6.symm.trans hfn)).symm
  refine ⟨by kernel_rfl, fun j t ht => ?_⟩
  rw [Tryd.params6] at ht
  obtain rfl : t = 44 := by simpa using Array.mem_of_getElem? ht
  exact (show Tryd.prog.wantsStandIn 44 = false by kernel_rfl)
theorem card : Rows.CpusetTellsCardSaid :=
  Claim7.holds_tied_plain_at .later [] _ _ _ _ said (fun _ h => by cases h) (by kernel_rfl) (fun _ h => by cases h) cpusetTells_row_tie rfl ⟨rfl, rfl⟩ (by kernel_rfl) rfl plain (by kernel_rfl)
end Go.Proofs.YtdikfhjpnfffnabDoor
