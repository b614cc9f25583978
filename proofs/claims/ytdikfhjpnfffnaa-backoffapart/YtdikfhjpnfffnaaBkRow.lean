/- BACKOFF: what the rows share. -/
import Derived.Test.YtdikfhjpnfffnaaBkA
import Derived.Test.YtdikfhjpnfffnaaGd
import Derived.Test.YtdikfhjpnfffnaaRows
import Derived.Stop.LaidErr
import Derived.WalkKit
import Derived.ProofKit
import Derived.OpenShut
set_option maxRecDepth 2000
set_option linter.unusedVariables false
set_option linter.unusedSimpArgs false
set_option maxRecDepth 2000
set_option linter.unusedVariables false
set_option linter.unusedSimpArgs false
set_option linter.unusedVariables false
set_option linter.unusedSimpArgs false
namespace Go.Proofs.Ytdikfhjpnfffnaa
open Go Go.Abs Go.Proofs Go.ChangeShapes Go.WideShapes Go.ChangeAt Go.RowKit
theorem own : ownKnob Try.prog.godebug = none := by kernel_rfl
theorem laidOut : laidOutB Try.prog = true := by kernel_rfl
def rowLaid : List (String × DataW Unit) := []
theorem facts_row {W : World} (hL : laidMetH Try.prog rowLaid W) (hS : W.ShapedOpen Try.prog) : GOK G0 (memOf W) := by
  refine ⟨fun g => ⟨rfl, _, rfl⟩, fun g hg => ?_, fun g hg => ?_⟩
  · rw [show Try.prog.globalNamed "internal/bytealg.MaxLen" = none by kernel_rfl] at hg
    cases hg
  · rw [show Try.prog.globalNamed "internal/strconv.uint64pow10" = none by kernel_rfl] at hg
    cases hg
theorem mkL_len {M : Mem} {ρ : Names} {esz : Nat} {a : Sh} {l : List a.val} {v : Value} (h : rel M ((Sh.slice esz a).mk fun _ => l) ρ .val [v]) : l.length ≤ 9223372036854775807 := by
  obtain ⟨x, n, cap, _, h2, h3, h4, _⟩ := h
  have h2 : (n : Int) = (l.length : Int) := h2
  have : Go.maxLen ≤ 9223372036854775807 := by decide
  omega
theorem ts_int : TS Try.prog (.int .i64) (.inl 3) := (show Try.prog.underlying _ = _ by kernel_rfl)
theorem ts_str : TS Try.prog .str (.inl 9) := (show Try.prog.underlying _ = _ by kernel_rfl)
theorem ts_ints : TS Try.prog (.slice 1 (.int .i64)) (.inl 22) := ⟨3, by kernel_rfl, by kernel_rfl, by decide, ts_int⟩
def shOp0 : Sh := .agg (.cons (.int .i64) (.cons (.int .i64) (.cons (.int .i64) (.cons .str .nil))))
theorem ts_op : TS Try.prog shOp0 (.inl 35) := by
  refine ⟨_, Try.underlying35, by kernel_rfl, ?_⟩
  exact ⟨rfl, by kernel_rfl, (show Try.prog.underlying _ = _ by kernel_rfl), rfl, by kernel_rfl, (show Try.prog.underlying _ = _ by kernel_rfl), rfl, by kernel_rfl, (show Try.prog.underlying _ = _ by kernel_rfl), rfl, by kernel_rfl, (show Try.prog.underlying _ = _ by kernel_rfl), trivial⟩
theorem ts_ops : TS Try.prog (.slice 4 shOp0) (.inl 32) := ⟨35, by kernel_rfl, by kernel_rfl, by decide, ts_op⟩
noncomputable def laidWorld (os : Os) : World := World.holding Try.prog os ⟨#[], #[], []⟩
theorem laid_met (os : Os) (args : Array Value) : laidMet Try.prog rowLaid ((laidWorld os).forCall (fun _ _ => 0) ⟨#[], args, []⟩).memory :=
  laidMet_of_run' 8 (by kernel_rfl) (by kernel_rfl)
end Go.Proofs.Ytdikfhjpnfffnaa
