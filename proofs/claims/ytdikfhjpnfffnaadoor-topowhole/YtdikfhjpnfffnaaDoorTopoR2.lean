/- berthinglaw40.TopoWhole: whatever the input, it answers true. -/
import Derived.Test.YtdikfhjpnfffnaaDoorTopoF
import Derived.Test.YtdikfhjpnfffnaaDoorGc
import Derived.Test.YtdikfhjpnfffnaaDoorCards
import Derived.Test.YtdikfhjpnfffnaaDoorTie
import Derived.WalkKit
import Derived.ProofKit
import Derived.OpenShut
set_option maxRecDepth 2000
set_option linter.unusedVariables false
set_option linter.unusedSimpArgs false
set_option linter.unusedVariables false
set_option linter.unusedSimpArgs false
namespace Go.Proofs.YtdikfhjpnfffnaaDoor
open Go Go.Abs Go.Proofs Go.ChangeShapes Go.WideShapes Go.ChangeAt Go.RowKit
theorem own : ownKnob Tryd.prog.godebug = none := by kernel_rfl
theorem laidOut : laidOutB Tryd.prog = true := by kernel_rfl
theorem G0_ok (W : World) : GOK G0 (memOf W) := fun g => ⟨rfl, _, rfl⟩
def shCase : Sh := .agg (.cons shTop (.cons shSet (.cons (.int .i64) (.cons (.int .i64) (.cons (.int .i64) (.cons (.int .i64) (.cons (.int .i64) .nil)))))))
theorem ts_top : TS Tryd.prog shTop (.inl 23) := by
  refine ⟨_, Tryd.underlying23, by kernel_rfl, ?_⟩
  exact ⟨rfl, by kernel_rfl, (show Tryd.prog.underlying _ = _ by kernel_rfl), rfl, by kernel_rfl, (show Tryd.prog.underlying _ = _ by kernel_rfl), rfl, by kernel_rfl, (show Tryd.prog.underlying _ = _ by kernel_rfl), trivial⟩
theorem ts_set : TS Tryd.prog shSet (.inl 26) := ⟨24, Tryd.underlying26, by kernel_rfl, by kernel_rfl, by kernel_rfl⟩
theorem ts_case : TS Tryd.prog shCase (.inl 28) := by
  refine ⟨_, Tryd.underlying28, by kernel_rfl, ?_⟩
  exact ⟨rfl, by kernel_rfl, ts_top, rfl, by kernel_rfl, ts_set, rfl, by kernel_rfl, (show Tryd.prog.underlying _ = _ by kernel_rfl), rfl, by kernel_rfl, (show Tryd.prog.underlying _ = _ by kernel_rfl), rfl, by kernel_rfl, (show Tryd.prog.underlying _ = _ by kernel_rfl), rfl, by kernel_rfl, (show Tryd.prog.underlying _ = _ by kernel_rfl), rfl, by kernel_rfl, (show Tryd.prog.underlying _ = _ by kernel_rfl), trivial⟩
theorem i64_of {n : Int} (h : (Lit.int .i64 n).wf = true) : -9223372036854775808 ≤ n ∧ n ≤ 9223372036854775807 := by
  simpa [Lit.wf, IntKind.min, IntKind.max, IntKind.signed, IntKind.bits] using h
theorem okSet_of {l : List Int} (h : shSet.okV l) : okSet l := by
  refine ⟨h.1, fun i hi => ?_⟩
  have hl : l.length = 4 := h.1
  have hg : l[i]? = some (l.getD i 0) := by rw [List.getD_eq_getElem?_getD, List.getElem?_eq_getElem (by omega)]; rfl
  have := h.2 i _ hg
  generalize l.getD i 0 = x at *
  simp [Lit.wf, IntKind.min, IntKind.max, IntKind.signed, IntKind.bits] at this
  omega
theorem case_calls (W : World) {H : Type} {enc : TypeId × Value → H} {v : Value} {fuel : Nat} {y : DataW H × List MemPlace} (hc : ∃ cs, v = .agg cs) (h : DataW.trod enc Tryd.prog W 0 (fun _ => true) true fuel 28 v.cells.toList = some y)
    {f : Nat} (hf : ∀ (s c t p a b k n : Int) (q : List Int), okSet q → n ≤ 9223372036854775807 → PF f (.cons (caseP s c t q p a b k n) .nil) .tt) :
    Calls Tryd.prog f #[v] W fun e W' => e = .returned (.bool true) ∧ Below W.heap.size W W' := by
  obtain ⟨x, hx, hr⟩ := open_sh shCase _ ts_case fuel _ y h
  obtain ⟨cs, rfl⟩ := hc
  obtain ⟨⟨s, c, t, _⟩, q, p, a, b, k, n, _⟩ := x
  obtain ⟨_, hq, _, _, _, _, hn, _⟩ := hx
  have hr := wide_rel (pv := caseP s c t q p a b k n) rfl (hr noNames)
  have e : (Value.agg cs).cells.toList.toArray = cs := rfl
  rw [e] at hr
  exact law_calls (vs := [.agg cs]) (hf s c t p a b k n q (okSet_of hq) (i64_of hn).2) (G0_ok W) (.inr ⟨rfl, _, [], rfl, hr, by simp, rfl⟩)
/-- What the walk gives, for every argument. -/
theorem contract (H : Type) (enc : TypeId × Value → H) (W : World) (base : Nat) (args : Array Value) (ds gs : List (DataW H)) (before : List MemPlace)
    (hval : ∀ (j : Nat) t v, Tryd.f4.params[j]? = some t → args[j]? = some v → Value.okWide Tryd.prog W .any base t v)
    (hW : DataW.Whole enc Tryd.prog Tryd.f4.params.toList Rows.topoWholeSpec.vars false W args.toList ds gs before) :
    Calls Tryd.prog 4 args W fun e W' => ∃ v, e = .returned v ∧ Rows.topoWholeSpec.post enc Tryd.prog Tryd.f4 false true false false W args v W' := by
  have hW' := hW
  obtain ⟨p, q, hA0, hV, rfl, hfz, hnd⟩ := hW
  have hA : DataW.TrodAll enc Tryd.prog W 0 (fun _ => true) true Tryd.f4.params.toList args.toList ds p := hA0
  rw [Tryd.params4] at hA hval
  obtain ⟨v0, vs0, d0, ds0, p0, q0, hargs, rfl, rfl, h0, r0⟩ := trodAll_cons hA
  obtain ⟨rfl, rfl, rfl⟩ := trodAll_nil r0
  obtain rfl : args = #[v0] := by cases args; simp_all
  obtain ⟨fuel, h0⟩ := h0
  have hv := hval 0 28 v0 rfl rfl
  have hc : ∃ cs, v0 = .agg cs := by
    unfold Value.okWide at hv
    rw [Tryd.underlying28] at hv
    obtain ⟨cs, h, _⟩ := hv
    exact ⟨cs, h⟩
  refine (case_calls W hc h0 fun s c t p a b k n q hq hn => whole_law s c t p a b k n q hq hn).mono fun e W' ⟨he, hB⟩ => ?_
  subst he
  exact ⟨_, rfl, law_post (tb := 4) hW' rfl laidOut (by kernel_rfl) rfl (by kernel_rfl) (by kernel_rfl) hB⟩

/-! ### A world for the witness -/
def relay (l : List Int) (k : IntKind) : Obj → Obj
  | .cells _ t frozen => .cells (l.map fun n => Value.int k n).toArray t frozen
  | o => o
def ints {H : Type} : DataW H → List Int
  | .agg l => l.map fun
    | .lit (.int _ n) => n
    | _ => 0
  | _ => []
noncomputable def laidWorld (os : Os) : World :=
  { World.holding Tryd.prog os ⟨#[], #[], []⟩ with heap := (((World.holding Tryd.prog os ⟨#[], #[], []⟩).heap.modify 2 (relay (ints (H := Unit) Rows.laid_math_bits_deBruijn32tab) .u8)).modify 3 (relay (ints (H := Unit) Rows.laid_math_bits_deBruijn64tab) .u8)).modify 0 (relay (ints (H := Unit) Rows.laid_internal_strconv_uint64pow10) .u64) }
def caseV : Value := .agg #[.int .i64 0, .int .i64 0, .int .i64 0, .int .u64 0, .int .u64 0, .int .u64 0, .int .u64 0, .int .i64 0, .int .i64 0, .int .i64 0, .int .i64 0, .int .i64 0]
def caseD {H : Type} : DataW H := .agg [.agg [.lit (.int .i64 0), .lit (.int .i64 0), .lit (.int .i64 0)], .agg [.lit (.int .u64 0), .lit (.int .u64 0), .lit (.int .u64 0), .lit (.int .u64 0)], .lit (.int .i64 0), .lit (.int .i64 0), .lit (.int .i64 0), .lit (.int .i64 0), .lit (.int .i64 0)]
theorem laid_met (os : Os) : laidMet Tryd.prog Rows.topoWholeRow.laid ((laidWorld os).forCall (fun _ _ => 0) ⟨#[], #[caseV], []⟩).memory :=
  laidMet_of_run' 8 (by kernel_rfl) (by kernel_rfl)
theorem reads (os : Os) {H : Type} (enc : TypeId × Value → H) : ∃ places, DataW.whole enc Tryd.prog ((laidWorld os).forCall (fun _ _ => 0) ⟨#[], #[caseV], []⟩).memory Tryd.f4.params.toList Rows.topoWholeSpec.vars false #[caseV].toList 8 = some ([caseD], [], places) :=
  ⟨[], by kernel_rfl⟩
set_option maxRecDepth 100000 in
theorem lifted (os : Os) (started : os.Started) (H : Type) (enc : TypeId × Value → H) (F : Stop.Interp) :
    ReturnsInHanded {} Tryd.checked os 4 .any ((OpenSpec.ofChange Rows.topoWholeSpec).preRow enc Tryd.prog Tryd.f4 Rows.topoWholeRow.domain false Rows.topoWholeRow.laid) (((OpenSpec.ofChange Rows.topoWholeSpec).at F).post enc Tryd.prog Tryd.f4 false true false false) := by
  obtain ⟨places, hx⟩ := reads os enc
  refine returnsInHanded_of_row (C := Tryd.checked) (s := OpenSpec.ofChange Rows.topoWholeSpec) own started (by kernel_rfl) Tryd.func4
    (witness_row_at (enc := enc) (C := Tryd.checked) false (laidWorld os) #[caseV] rfl (by kernel_rfl) (by kernel_rfl) (by kernel_rfl)
      (OpenSpec.preRow_of_cond 8 hx (by kernel_rfl) (fun k hk => by cases hk) (by kernel_rfl) (laid_met os))) ?_
  intro W base args ds gs before hval hW _ _ _ hL _ _
  exact contract H enc W base args ds gs before hval hW
theorem said : Rows.TopoWholeSaid :=
  OpenClaim.holds_of_cond 4 Tryd.f4 rfl rfl rfl rfl rfl rfl rfl ⟨rfl, rfl, rfl, rfl, rfl⟩ rfl rfl rfl rfl rfl (by kernel_rfl) Tryd.func4 (by kernel_rfl)
    (of_decide_eq_true (by kernel_rfl)) (by unfold Func.isWrapper; first | (rw [if_pos (by decide +kernel)]; kernel_rfl) | (rw [if_neg (by decide +kernel)]; exact ⟨rfl, rfl⟩))
    (fun os started H enc _ F => by rw [OpenClaim.pre_eq_preRow]; exact lifted os started H enc F)
theorem plain (f : FuncId) (fn : Func) (hf : Tryd.pinned.checked.prog.funcNamed "berthing/berthinglaw40.TopoWhole" = some f) (hfn : Tryd.pinned.checked.prog.funcs[f]? = some fn) :
    false = Tryd.pinned.checked.prog.looks [] ∧ ∀ (j : Nat) t, fn.params[j]? = some t → Tryd.pinned.checked.prog.wantsStandIn t = false := by
  obtain rfl : f = 4 := Option.some.inj ((show Tryd.prog.funcNamed "berthing/berthinglaw40.TopoWhole" = some 4 by kernel_rfl).symm.trans hf) |>.symm
  obtain rfl : fn = Tryd.f4 := (Option.some.inj (Tryd.func4.symm.trans hfn)).symm
  refine ⟨by kernel_rfl, fun j t ht => ?_⟩
  rw [Tryd.params4] at ht
  obtain rfl : t = 28 := by simpa using Array.mem_of_getElem? ht
  exact (show Tryd.prog.wantsStandIn 28 = false by kernel_rfl)
theorem card : Rows.TopoWholeCardSaid :=
  Claim7.holds_tied_plain_at .later [] _ _ _ _ said (fun _ h => by cases h) (by kernel_rfl) (fun _ h => by cases h) topoWhole_row_tie rfl ⟨rfl, rfl⟩ (by kernel_rfl) rfl plain (by kernel_rfl)
end Go.Proofs.YtdikfhjpnfffnaaDoor
