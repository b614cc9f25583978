/- SETS OF PROCESSORS: what the rows share. -/
import Derived.Test.YtdikfhjpnfffnabDoorCsB
import Derived.Test.YtdikfhjpnfffnabDoorGc
import Derived.Test.YtdikfhjpnfffnabDoorShelf
import Derived.Test.YtdikfhjpnfffnabDoorCards
import Derived.Test.YtdikfhjpnfffnabDoorTie
import Derived.Stop.LaidErr
import Derived.WalkKit
import Derived.ProofKit
import Derived.OpenShut
set_option maxRecDepth 2000
set_option linter.unusedVariables false
set_option linter.unusedSimpArgs false
set_option linter.unusedVariables false
set_option linter.unusedSimpArgs false
namespace Go.Proofs.YtdikfhjpnfffnabDoor
open Go Go.Abs Go.Proofs Go.ChangeShapes Go.WideShapes Go.ChangeAt Go.RowKit
theorem own : ownKnob Tryd.prog.godebug = none := by kernel_rfl
theorem laidOut : laidOutB Tryd.prog = true := by kernel_rfl
def rowLaid : List (String × DataW Unit) := Rows.cpusetTwoRow.laid
theorem facts_row {W : World} (hL : laidMetH Tryd.prog rowLaid W) (hS : W.ShapedOpen Tryd.prog) : GOK G0 (memOf W) := by
  have hL : laidMet Tryd.prog rowLaid W := hL
  refine ⟨fun g => ⟨rfl, _, rfl⟩, fun g hg => ?_, fun g hg => ?_⟩
  · obtain ⟨m, hm⟩ := Tryd.laysM145.s1_3 W hS
    obtain rfl : g = 0 := Option.some.inj (hg.symm.trans (show Tryd.prog.globalNamed "internal/bytealg.MaxLen" = some 0 by kernel_rfl))
    have hm : W.cell? ⟨0, 0, none⟩ = some (.int .i64 m) := hm
    unfold World.cell? at hm
    cases ho : W.heap[0]? with
    | none => rw [show (⟨0, 0, none⟩ : Addr).block = 0 from rfl, ho] at hm; cases hm
    | some o =>
      rw [show (⟨0, 0, none⟩ : Addr).block = 0 from rfl, ho] at hm
      cases o with
      | cells cs t fr => exact ⟨cs, t, fr, m, ho, by simpa using hm⟩
      | _ => cases hm
  · obtain rfl : g = 1 := Option.some.inj (hg.symm.trans (show Tryd.prog.globalNamed "internal/strconv.uint64pow10" = some 1 by kernel_rfl))
    have hT : Lib.TabIs Tryd.prog W "internal/strconv.uint64pow10" .u64 Lib.pow10Tab :=
      Lib.tabIs_of_head (rest := rowLaid.tail.tail.tail) hg (t := 97) (e := 22) (n := 20) (by kernel_rfl) (by kernel_rfl) (by kernel_rfl) (by kernel_rfl) (by kernel_rfl) (laidMet.tail (laidMet.tail hL))
    unfold Lib.TabIs World.var? at hT
    rw [hg] at hT
    have hT : (match W.heap[1]? with
      | some (Obj.cells cs _ _) => some cs
      | _ => none) = some (Lib.pow10Tab.map fun z => Value.int .u64 z).toArray := hT
    cases ho : W.heap[1]? with
    | none => rw [ho] at hT; cases hT
    | some o =>
      rw [ho] at hT
      cases o with
      | cells cs t fr => exact ⟨t, fr, ho.trans (by rw [Option.some.inj hT])⟩
      | _ => cases hT
theorem ts_set : TS Tryd.prog shSet (.inl 24) := ⟨22, Tryd.underlying24, by kernel_rfl, by kernel_rfl, by kernel_rfl⟩
theorem ts_ints : TS Tryd.prog (.slice 1 (.int .i64)) (.inl 33) := ⟨3, by kernel_rfl, by kernel_rfl, by decide, (show Tryd.prog.underlying _ = _ by kernel_rfl)⟩
theorem i64_of {n : Int} (h : (Lit.int .i64 n).wf = true) : -9223372036854775808 ≤ n ∧ n ≤ 9223372036854775807 := by
  simpa [Lit.wf, IntKind.min, IntKind.max, IntKind.signed, IntKind.bits] using h
theorem okSet_of {l : List Int} (h : shSet.okV l) : okSet l := by
  refine ⟨h.1, fun i hi => ?_⟩
  have hl : l.length = 4 := h.1
  have hg : l[i]? = some (l.getD i 0) := by rw [List.getD_eq_getElem?_getD, List.getElem?_eq_getElem (by omega)]; rfl
  have := h.2 i _ hg
  generalize l.getD i 0 = x at *
  simp [Lit.wf, IntKind.min, IntKind.max, IntKind.signed, IntKind.bits] at this
  omega
/-- An array, read. -/
theorem read_set {W : World} {H : Type} {enc : TypeId × Value → H} {v : Value} {fuel : Nat} {y : DataW H × List MemPlace} (hv : Value.okWide Tryd.prog W .any 0 24 v) (h : DataW.trod enc Tryd.prog W 0 (fun _ => true) true fuel 24 v.cells.toList = some y) :
    ∃ l, okSet l ∧ rel (memOf W) (.arrI .u64 4 fun _ => l) noNames .val [v] := by
  obtain ⟨l, hl, hr⟩ := open_sh shSet _ ts_set fuel _ y h
  have hc : ∃ cs, v = .agg cs := by
    unfold Value.okWide at hv
    rw [Tryd.underlying24] at hv
    obtain ⟨cs, h, _⟩ := hv
    exact ⟨cs, h⟩
  obtain ⟨cs, rfl⟩ := hc
  have hr := wide_rel (pv := .arrI .u64 4 fun _ => l) rfl (hr noNames)
  have e : (Value.agg cs).cells.toList.toArray = cs := rfl
  rw [e] at hr
  exact ⟨l, okSet_of hl, hr⟩
/-- A row of ints, read. -/
theorem read_ints {W : World} {H : Type} {enc : TypeId × Value → H} {v : Value} {fuel : Nat} {y : DataW H × List MemPlace} (hv : Value.okWide Tryd.prog W .any 0 33 v) (h : DataW.trod enc Tryd.prog W 0 (fun _ => true) true fuel 33 v.cells.toList = some y) :
    ∃ l : List Int, rel (memOf W) (Sh.mkL 1 (.int .i64) fun _ => l) noNames .val [v] := by
  obtain ⟨l, hl, hr⟩ := open_sh (.slice 1 (.int .i64)) _ ts_ints fuel _ y h
  obtain ⟨a, n, cap, ⟨_, e⟩, hrest⟩ := hr noNames
  have hc : v = .slice a n cap := by
    unfold Value.okWide at hv
    rw [show Tryd.prog.underlying 33 = some (.slice 3) by kernel_rfl] at hv
    have hv : Cell.okWide Tryd.prog W .any 0 33 v := hv
    cases v with
    | agg cs =>
      unfold Cell.okWide at hv
      rw [show Tryd.prog.underlying 33 = some (.slice 3) by kernel_rfl] at hv
      unfold Cell.ok at hv
      rw [show Tryd.prog.underlying 33 = some (.slice 3) by kernel_rfl] at hv
      cases hv
    | slice a' n' c' => simpa [Value.cells] using e
    | _ => simp [Value.cells] at e
  subst hc
  exact ⟨l, a, n, cap, ⟨by simp, rfl⟩, hrest⟩

/-! ### A world for the witness -/
def relay (l : List Int) (k : IntKind) : Obj → Obj
  | .cells _ t frozen => .cells (l.map fun n => Value.int k n).toArray t frozen
  | o => o
def intOf {H : Type} : DataW H → Int
  | .lit (.int _ n) => n
  | _ => 0
def partsOf {H : Type} : DataW H → List (DataW H)
  | .agg l => l
  | _ => []
def ints {H : Type} (d : DataW H) : List Int := (partsOf d).map intOf
def ints2 {H : Type} (d : DataW H) : List Int := (partsOf d).flatMap ints
noncomputable def laidWorld (os : Os) : World :=
  { World.holding Tryd.prog os ⟨#[], #[], []⟩ with heap := (((((World.holding Tryd.prog os ⟨#[], #[], []⟩).heap.modify 4 (relay (ints (H := Unit) Rows.laid_math_bits_deBruijn32tab) .u8)).modify 5 (relay (ints (H := Unit) Rows.laid_math_bits_deBruijn64tab) .u8)).modify 1 (relay (ints (H := Unit) Rows.laid_internal_strconv_uint64pow10) .u64)).modify 3 (relay (ints2 (H := Unit) Rows.laid_unicode_utf8_acceptRanges) .u8)).modify 2 (relay (ints Rows.laid_unicode_utf8_first) .u8) }
theorem laid_met (os : Os) (args : Array Value) : laidMet Tryd.prog rowLaid ((laidWorld os).forCall (fun _ _ => 0) ⟨#[], args, []⟩).memory :=
  laidMet_of_run' 8 (by kernel_rfl) (by kernel_rfl)
end Go.Proofs.YtdikfhjpnfffnabDoor
