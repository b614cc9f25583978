/- berthing/berthinglaw29.BackoffApart: whatever the input, it answers true. -/
import Derived.Test.YtdikfhjpnfffnaaBkH
import Derived.Test.YtdikfhjpnfffnaaBkRow
set_option maxRecDepth 2000
set_option linter.unusedVariables false
set_option linter.unusedSimpArgs false
set_option linter.unusedVariables false
set_option linter.unusedSimpArgs false
namespace Go.Proofs.Ytdikfhjpnfffnaa
open Go Go.Abs Go.Proofs Go.ChangeShapes Go.WideShapes Go.ChangeAt Go.RowKit
/-- What the walk gives, for every argument. -/
theorem contract (H : Type) (enc : TypeId × Value → H) (W : World) (base : Nat) (args : Array Value) (ds gs : List (DataW H)) (before : List MemPlace)
    (hL : laidMetH Try.prog rowLaid W) (hS : W.ShapedOpen Try.prog)
    (hval : ∀ (j : Nat) t v, Try.f4.params[j]? = some t → args[j]? = some v → Value.okWide Try.prog W .any base t v)
    (hW : DataW.Whole enc Try.prog Try.f4.params.toList Rows.backoffApartSpec.vars false W args.toList ds gs before) :
    Calls Try.prog 4 args W fun e W' => ∃ v, e = .returned v ∧ Rows.backoffApartSpec.post enc Try.prog Try.f4 false true false false W args v W' := by
  have hW' := hW
  obtain ⟨p, q, hA0, hV, rfl, hfz, hnd⟩ := hW
  have hA : DataW.TrodAll enc Try.prog W 0 (fun _ => true) true Try.f4.params.toList args.toList ds p := hA0
  rw [Try.params4] at hA hval
  obtain ⟨v0, vs0, d0, ds0, p0, q0, hargs0, rfl, rfl, h0, r0⟩ := trodAll_cons hA
  obtain ⟨v1, vs1, d1, ds1, p1, q1, hargs1, rfl, rfl, h1, r1⟩ := trodAll_cons r0
  obtain ⟨v2, vs2, d2, ds2, p2, q2, hargs2, rfl, rfl, h2, r2⟩ := trodAll_cons r1
  obtain ⟨rfl, rfl, rfl⟩ := trodAll_nil r2
  obtain rfl : args = #[v0, v1, v2] := by cases args; simp_all
  obtain ⟨fuel0, h0⟩ := h0
  obtain ⟨fuel1, h1⟩ := h1
  obtain ⟨fuel2, h2⟩ := h2
  obtain ⟨x0, k0, m0⟩ := read_leaf (a := (.int .i64)) rfl ts_int (hval 0 3 v0 rfl rfl) h0
  obtain ⟨x1, k1, m1⟩ := read_leaf (a := (.slice 4 shOp0)) rfl ts_ops (hval 1 32 v1 rfl rfl) h1
  obtain ⟨x2, k2, m2⟩ := read_leaf (a := .str) rfl ts_str (hval 2 9 v2 rfl rfl) h2
  have hc := law_calls (vs := [v0, v1, v2]) ((apart_ok x0 x1 x2 (mkL_len m1)).imp (by exact rfl)) (facts_row hL hS) (.inr ⟨rfl, _, _, rfl, m0, .inr ⟨rfl, _, _, rfl, m1, .inr ⟨rfl, _, _, rfl, m2, by simp, rfl⟩⟩⟩)
  refine hc.mono fun e W' ⟨he, hB⟩ => ?_
  subst he
  exact ⟨_, rfl, law_post (tb := 4) hW' rfl laidOut (by kernel_rfl) rfl (by kernel_rfl) (by kernel_rfl) hB⟩
def args0 : Array Value := #[.int .i64 0, .slice none 0 0, .string ByteArray.empty]
def data0 {H : Type} : List (DataW H) := [.lit (.int .i64 0), .nil, .lit (.string [])]
theorem reads (os : Os) {H : Type} (enc : TypeId × Value → H) : ∃ places, DataW.whole enc Try.prog ((laidWorld os).forCall (fun _ _ => 0) ⟨#[], args0, []⟩).memory Try.f4.params.toList Rows.backoffApartSpec.vars false args0.toList 8 = some (data0, [], places) :=
  ⟨[], by kernel_rfl⟩
set_option maxRecDepth 100000 in
theorem lifted (os : Os) (started : os.Started) (H : Type) (enc : TypeId × Value → H) (F : Stop.Interp) :
    ReturnsInHanded {} Try.checked os 4 .any ((OpenSpec.ofChange Rows.backoffApartSpec).preRow enc Try.prog Try.f4 Rows.backoffApartRow.domain false Rows.backoffApartRow.laid) (((OpenSpec.ofChange Rows.backoffApartSpec).at F).post enc Try.prog Try.f4 false true false false) := by
  obtain ⟨places, hx⟩ := reads os enc
  refine returnsInHanded_of_row (C := Try.checked) (s := OpenSpec.ofChange Rows.backoffApartSpec) own started (by kernel_rfl) Try.func4
    (witness_row_at (enc := enc) (C := Try.checked) false (laidWorld os) args0 rfl (by kernel_rfl) (by kernel_rfl) (by kernel_rfl)
      (OpenSpec.preRow_of_cond 8 hx (by kernel_rfl) (fun k hk => by cases hk) (by kernel_rfl) (laid_met os args0))) ?_
  intro W base args ds gs before hval hW _ _ _ hL hS _
  exact contract H enc W base args ds gs before hL hS hval hW
theorem said : Rows.BackoffApartSaid :=
  OpenClaim.holds_of_cond 4 Try.f4 rfl rfl rfl rfl rfl rfl rfl ⟨rfl, rfl, rfl, rfl, rfl⟩ rfl rfl rfl rfl rfl (by kernel_rfl) Try.func4 (by kernel_rfl)
    (of_decide_eq_true (by kernel_rfl)) (by unfold Func.isWrapper; first | (rw [if_pos (by decide +kernel)]; kernel_rfl) | (rw [if_neg (by decide +kernel)]; exact ⟨rfl, rfl⟩))
    (fun os started H enc _ F => by rw [OpenClaim.pre_eq_preRow]; exact lifted os started H enc F)
end Go.Proofs.Ytdikfhjpnfffnaa
