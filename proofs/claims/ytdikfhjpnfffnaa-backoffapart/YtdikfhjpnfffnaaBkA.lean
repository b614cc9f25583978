/- BACKOFF: who failed. -/
import Derived.Test.YtdikfhjpnfffnaaMBase
set_option maxRecDepth 2000
set_option linter.unusedVariables false
set_option linter.unusedSimpArgs false
set_option maxRecDepth 2000
set_option linter.unusedVariables false
set_option linter.unusedSimpArgs false
set_option linter.unusedVariables false
set_option linter.unusedSimpArgs false
namespace Go.Proofs.Ytdikfhjpnfffnaa
open Go Go.Abs Go.Proofs
abbrev shRow : Sh := .agg (.cons (.int .i64) (.cons (.int .i64) .nil))
abbrev RowL := List (Sh.str.val × shRow.val)
def z0 : shRow.val := ((0 : Int), (0 : Int), ())
def rowOf (l : RowL) (s : ByteArray) : shRow.val := (mGet .str l s).getD z0
def failsOf (l : RowL) (s : ByteArray) : Int := (rowOf l s).1
def untilOf (l : RowL) (s : ByteArray) : Int := (rowOf l s).2.1
def tabP (most : Int) (m : Nat) : PV := .agg (.cons (.int .i64 fun _ => most) (.cons (.map m) .nil))
def tabS (most : Int) (l : RowL) : Store := [(0, .var (tabP most 1)), (1, .map .str shRow fun _ => l)]
/-- A leaf that turned nothing but what is told. -/
theorem qr {k : Nat} {r pv : PV} {W S' : Store} (hi : injS (fun i => i) W = true) (hid : idS (fun i => i) k = true) (hs : impS (fun i => i) S' W) (hr : impP pv (r.ren fun i => i)) : QR k r W pv S' := ⟨fun i => i, hid, hi, hs, hr⟩
theorem held_ok (n lo hi : Int) : PF 23 (.cons (i64 n) (.cons (i64 lo) (.cons (i64 hi) .nil))) (i64 (if n < lo then lo else if hi < n then hi else n)) := by
  refine (⟨Try.func23, rfl, rfl, rfl, ⟨rfl, rfl⟩, ok _⟩ : FN 23 Try.f23).treeS (mkM_ok F0_ok emptyS_ok) false 40 (.any) rfl ?_
  conv => arg 5; cbv
  refine ⟨fun g => ⟨rfl, rfl, ?_⟩, fun g => ⟨fun g2 => ⟨rfl, rfl, ?_⟩, fun g2 => ⟨rfl, rfl, ?_⟩⟩⟩
  · exact (if_pos (of_decide_eq_true g)).symm
  · exact ((if_neg (of_decide_eq_false g)).trans (if_pos (of_decide_eq_true g2))).symm
  · exact ((if_neg (of_decide_eq_false g)).trans (if_neg (of_decide_eq_false g2))).symm
def heldI (n : Int) : Int := if n < 0 then 0 else if 1152921504606846976 < n then 1152921504606846976 else n
theorem heldI_lt (n : Int) : 0 ≤ heldI n ∧ heldI n ≤ 1152921504606846976 := by unfold heldI; split; omega; split <;> omega
noncomputable def Fb0 : Table := addS 23 (.cons (.int .i64) (.cons (.int .i64) (.cons (.int .i64) .nil))) (fun n lo hi => (.int .i64 fun _ => if n () < lo () then lo () else if hi () < n () then hi () else n (), [])) F0
theorem Fb0_ok : TableOK Try.prog G0 Fb0 := addS_ok (⟨Try.func23, rfl, rfl, rfl, ⟨rfl, rfl⟩, ok _⟩ : FN 23 Try.f23).callable (fun n lo hi _ => held_ok (n ()) (lo ()) (hi ())) F0_ok
theorem at_ok (n : Int) : PF 20 (.cons (i64 n) .nil) (i64 (heldI n)) := by
  refine (⟨Try.func20, rfl, rfl, rfl, ⟨rfl, rfl⟩, ok _⟩ : FN 20 Try.f20).treeS (mkM_ok Fb0_ok emptyS_ok) false 40 (.any) rfl ?_
  conv => arg 5; cbv
  exact ⟨rfl, rfl, rfl⟩
noncomputable def Fb1 : Table := addS 20 (.cons (.int .i64) .nil) (fun n => (.int .i64 fun _ => heldI (n ()), [])) Fb0
theorem Fb1_ok : TableOK Try.prog G0 Fb1 := addS_ok (⟨Try.func20, rfl, rfl, rfl, ⟨rfl, rfl⟩, ok _⟩ : FN 20 Try.f20).callable (fun n _ => at_ok (n ())) Fb0_ok
theorem fails_ok (most : Int) (l : RowL) (s : ByteArray) : SFun Try.prog G0 10 (.cons (.ptr 0 0) (.cons (.str fun _ => s) .nil)) (tabS most l) 2 (QR 2 (.int .i64 fun _ => failsOf l s) (tabS most l)) := by
  refine (⟨Try.func10, rfl, rfl, rfl, ⟨rfl, rfl⟩, ok _⟩ : FN 10 Try.f10).streeS (mkM_ok F0_ok emptyS_ok) false 40 (.any) rfl ?_
  conv => arg 5; cbv
  exact ⟨fun i => i, rfl, rfl, ⟨impP_refl _, rfl, trivial⟩, impP_refl _⟩
theorem until_ok (most : Int) (l : RowL) (s : ByteArray) : SFun Try.prog G0 12 (.cons (.ptr 0 0) (.cons (.str fun _ => s) .nil)) (tabS most l) 2 (QR 2 (.int .i64 fun _ => untilOf l s) (tabS most l)) := by
  refine (⟨Try.func12, rfl, rfl, rfl, ⟨rfl, rfl⟩, ok _⟩ : FN 12 Try.f12).streeS (mkM_ok F0_ok emptyS_ok) false 40 (.any) rfl ?_
  conv => arg 5; cbv
  exact ⟨fun i => i, rfl, rfl, ⟨impP_refl _, rfl, trivial⟩, impP_refl _⟩
theorem clear_ok (most : Int) (l : RowL) (s : ByteArray) : SFun Try.prog G0 13 (.cons (.ptr 0 0) (.cons (.str fun _ => s) .nil)) (tabS most l) 2 (QR 2 (.tuple .nil) (tabS most (mDel .str l s))) := by
  refine (⟨Try.func13, rfl, rfl, rfl, ⟨rfl, rfl⟩, ok _⟩ : FN 13 Try.f13).streeS (mkM_ok F0_ok emptyS_ok) false 40 (.any) rfl ?_
  conv => arg 5; cbv
  exact ⟨fun i => i, rfl, rfl, ⟨impP_refl _, rfl, trivial⟩, impP_refl _⟩
def nf (f : Int) : Int := if 1000000 < f + 1 then 1000000 else f + 1
def sf (f : Int) : Int := if 10 < nf f - 1 then 10 else nf f - 1
def wt (most f : Int) : Int := if most < 2 ^ (sf f).toNat then most else 2 ^ (sf f).toNat
theorem nf_range {f : Int} (h : 0 ≤ f ∧ f ≤ 1000000) : 1 ≤ nf f ∧ nf f ≤ 1000000 := by unfold nf; split <;> omega
theorem sf_range {f : Int} (h : 0 ≤ f ∧ f ≤ 1000000) : 0 ≤ sf f ∧ sf f ≤ 10 := by have := nf_range h; unfold sf; split <;> omega
theorem pow_range {n : Nat} (h : n ≤ 10) : (1 : Int) ≤ 2 ^ n ∧ (2 : Int) ^ n ≤ 1024 := by
  have : ∀ m : Fin 11, (1 : Int) ≤ 2 ^ m.val ∧ (2 : Int) ^ m.val ≤ 1024 := by decide
  exact this ⟨n, by omega⟩
theorem wt_range {most f : Int} (hm : 1 ≤ most ∧ most ≤ 1024) (h : 0 ≤ f ∧ f ≤ 1000000) : 1 ≤ wt most f ∧ wt most f ≤ most := by
  have := pow_range (n := (sf f).toNat) (by have := sf_range h; omega)
  unfold wt; split <;> omega
def failL (most : Int) (l : RowL) (s : ByteArray) (now : Int) : RowL := mPut .str l s ((nf (failsOf l s), heldI now + wt most (failsOf l s), ()) : Int × Int × Unit)
theorem fail_ok (most : Int) (l : RowL) (s : ByteArray) (now : Int) (hm : 1 ≤ most ∧ most ≤ 1024) (hf : 0 ≤ failsOf l s ∧ failsOf l s ≤ 1000000) : SFun Try.prog G0 8 (.cons (.ptr 0 0) (.cons (.str fun _ => s) (.cons (i64 now) .nil))) (tabS most l) 2 (QR 2 (i64 (wt most (failsOf l s))) (tabS most (failL most l s now))) := by
  refine (⟨Try.func8, rfl, rfl, rfl, ⟨rfl, rfl⟩, ok _⟩ : FN 8 Try.f8).streeS (mkM_ok Fb1_ok emptyS_ok) false 40 (.any) rfl ?_
  conv => arg 5; cbv
  have hx : (mGet Sh.str l s).getD ((0 : Int), (0 : Int), ()) = rowOf l s := rfl
  have h1 := nf_range hf
  have h2 := sf_range hf
  have h3 := wt_range hm hf
  have h4 := heldI_lt now
  have h5 := pow_range (n := (sf (failsOf l s)).toNat) (by omega)
  have w1 : IntKind.i64.wrap (failsOf l s + 1) = failsOf l s + 1 := IntWalk.i64_in _ ⟨by omega, by omega⟩
  have w2 : IntKind.i64.wrap (nf (failsOf l s) - 1) = nf (failsOf l s) - 1 := IntWalk.i64_in _ ⟨by omega, by omega⟩
  have w3 : IntKind.i64.wrap (heldI now + wt most (failsOf l s)) = heldI now + wt most (failsOf l s) := IntWalk.i64_in _ ⟨by omega, by omega⟩
  have e1 : (if 1000000 < failsOf l s + 1 then 1000000 else failsOf l s + 1) = nf (failsOf l s) := rfl
  have e2 : (if 10 < nf (failsOf l s) - 1 then 10 else nf (failsOf l s) - 1) = sf (failsOf l s) := rfl
  have e0 : (rowOf l s).1 = failsOf l s := rfl
  have e3 : shl IntKind.i64 1 (sf (failsOf l s)) = 2 ^ (sf (failsOf l s)).toNat := by
    unfold shl
    rw [Nat.min_eq_left (show (sf (failsOf l s)).toNat ≤ IntKind.i64.bits from Nat.le_trans (show _ ≤ 10 by omega) (by decide)), Int.one_mul]
    exact IntWalk.i64_in _ ⟨by omega, by omega⟩
  have e4 : (if most < 2 ^ (sf (failsOf l s)).toNat then most else 2 ^ (sf (failsOf l s)).toNat) = wt most (failsOf l s) := rfl
  simp only [hx, e0, w1, e1, w2, e2, e3, e4, w3]
  exact ⟨⟨h2.1, (by show drawOK _ _ = true; decide +kernel), (by show drawOK _ _ = true; decide +kernel), trivial⟩, fun i => i, rfl, rfl, ⟨impP_refl _, rfl, trivial⟩, impP_refl _⟩
end Go.Proofs.Ytdikfhjpnfffnaa
