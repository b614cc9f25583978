/- VECTORS: what the rows share. -/
import Derived.Test.YtdikfhjpnfffnacDoorVcA
import Derived.Test.YtdikfhjpnfffnacDoorVcH
import Derived.Test.YtdikfhjpnfffnacDoorGd
import Derived.Test.YtdikfhjpnfffnacDoorShelf
import Derived.Test.YtdikfhjpnfffnacDoorCards
import Derived.Test.YtdikfhjpnfffnacDoorTie
import Derived.Stop.LaidErr
import Derived.WalkKit
import Derived.ProofKit
import Derived.OpenShut
set_option maxRecDepth 2000
set_option linter.unusedVariables false
set_option linter.unusedSimpArgs false
set_option linter.unusedVariables false
set_option linter.unusedSimpArgs false
namespace Go.Proofs.YtdikfhjpnfffnacDoor
open Go Go.Abs Go.Proofs Go.ChangeShapes Go.WideShapes Go.ChangeAt Go.RowKit
theorem own : ownKnob Tryd.prog.godebug = none := by kernel_rfl
theorem laidOut : laidOutB Tryd.prog = true := by kernel_rfl
def rowLaid : List (String × DataW Unit) := Rows.vectorTellsRow.laid
theorem facts_row {W : World} (hL : laidMetH Tryd.prog rowLaid W) (hS : W.ShapedOpen Tryd.prog) : GOK G0 (memOf W) := by
  refine ⟨fun g => ⟨rfl, _, rfl⟩, fun g hg => ?_, fun g hg => ?_⟩
  · obtain ⟨m, hm⟩ := Tryd.laysM219.s1_3 W hS
    obtain rfl : g = 0 := Option.some.inj (hg.symm.trans (show Tryd.prog.globalNamed "internal/bytealg.MaxLen" = some 0 by kernel_rfl))
    have hm : W.cell? ⟨0, 0, none⟩ = some (.int .i64 m) := hm
    unfold World.cell? at hm
    cases ho : W.heap[0]? with
    | none => rw [show (⟨0, 0, none⟩ : Addr).block = 0 from rfl, ho] at hm; cases hm
    | some o =>
      rw [show (⟨0, 0, none⟩ : Addr).block = 0 from rfl, ho] at hm
      cases o with
      | cells cs t fr => exact ⟨cs, t, fr, m, ho, by simpa using hm⟩
      | _ => cases hm
  · rw [show Tryd.prog.globalNamed "internal/strconv.uint64pow10" = none by kernel_rfl] at hg
    cases hg
theorem ts_vec : TS Tryd.prog shV (.inl 23) := by
  refine ⟨_, Tryd.underlying23, by kernel_rfl, ?_⟩
  exact ⟨rfl, by kernel_rfl, (show Tryd.prog.underlying _ = _ by kernel_rfl), rfl, by kernel_rfl, (show Tryd.prog.underlying _ = _ by kernel_rfl), rfl, by kernel_rfl, (show Tryd.prog.underlying _ = _ by kernel_rfl), trivial⟩
theorem ts_vecs : TS Tryd.prog (.slice 3 shV) (.inl 39) := ⟨23, by kernel_rfl, by kernel_rfl, by decide, ts_vec⟩
theorem ts_int : TS Tryd.prog (.int .i64) (.inl 3) := (show Tryd.prog.underlying _ = _ by kernel_rfl)

/-! ### A world for the witness -/
def relay (l : List Int) (k : IntKind) : Obj → Obj
  | .cells _ t frozen => .cells (l.map fun n => Value.int k n).toArray t frozen
  | o => o
def intOf {H : Type} : DataW H → Int
  | .lit (.int _ n) => n
  | _ => 0
def partsOf {H : Type} : DataW H → List (DataW H)
  | .agg l => l
  | _ => []
def ints {H : Type} (d : DataW H) : List Int := (partsOf d).map intOf
def ints2 {H : Type} (d : DataW H) : List Int := (partsOf d).flatMap ints
noncomputable def laidWorld (os : Os) : World :=
  { World.holding Tryd.prog os ⟨#[], #[], []⟩ with heap := (((World.holding Tryd.prog os ⟨#[], #[], []⟩).heap.modify 2 (relay (ints2 (H := Unit) Rows.laid_unicode_utf8_acceptRanges) .u8)).modify 1 (relay (ints Rows.laid_unicode_utf8_first) .u8)) }
theorem laid_met (os : Os) (args : Array Value) : laidMet Tryd.prog rowLaid ((laidWorld os).forCall (fun _ _ => 0) ⟨#[], args, []⟩).memory :=
  laidMet_of_run' 8 (by kernel_rfl) (by kernel_rfl)
end Go.Proofs.YtdikfhjpnfffnacDoor
