/- AMOUNTS: their texts. -/
import Derived.Test.YtdikfhjpnfffnacDoorVcE
set_option maxRecDepth 2000
set_option linter.unusedVariables false
set_option linter.unusedSimpArgs false
set_option linter.unusedVariables false
set_option linter.unusedSimpArgs false
namespace Go.Proofs.YtdikfhjpnfffnacDoor
open Go Go.Abs Go.Proofs
def atB2 (v : Nat) : ByteArray := if v ≤ mostA then toB (atext v) else ⟨#[]⟩
def sAP : PV := .slice none 1 (fun _ => 10) fun j => .str fun _ => toB (sufA (j ()).toNat)
def txA (x : Nat × Nat) : Env := [(4, .int .i64 fun _ => (x.2 : Int)), (3, sAP), (1, .ptr 0 0)]
def txS (x : Nat × Nat) : Store := [(0, .var (.agg (.cons (.int .u64 fun _ => wHi (x.1)) (.cons (.int .u64 fun _ => wLo (x.1)) .nil))))]
structure TxI (v : Nat) (x : Nat × Nat) : Prop where
  i : x.2 ≤ 9
  le : x.1 ≤ v
  e : Lib.decDigits (thou (9 - x.2) x.1).1 ++ sufA (x.2 + (thou (9 - x.2) x.1).2) = atext v
theorem toB_cat (a b : List UInt8) : toB a ++ toB b = toB (a ++ b) := by
  apply ByteArray.ext
  simp [toB]
theorem sufA_le (k : Nat) : (sufA k).length ≤ 2 ∧ (sufB k).length ≤ 2 := by
  have h1 : ∀ x ∈ ([[110], [117], [109], [], [107], [77], [71], [84], [80], [69]] : List (List UInt8)), x.length ≤ 2 := by decide
  have h2 : ∀ x ∈ ([[], [75, 105], [77, 105], [71, 105], [84, 105], [80, 105], [69, 105]] : List (List UInt8)), x.length ≤ 2 := by decide
  have g : ∀ (l : List (List UInt8)), (∀ x ∈ l, x.length ≤ 2) → (l.getD k []).length ≤ 2 := fun l hl => by
    rw [List.getD_eq_getElem?_getD]
    cases hk : l[k]? with
    | none => simp
    | some x => exact hl x (List.mem_of_getElem? hk)
  exact ⟨g _ h1, g _ h2⟩
theorem size_ok (n : Nat) (hn : n ≤ mostA) (s : List UInt8) (hs : s.length ≤ 2) : (toB (Lib.decDigits n)).size + (toB s).size ≤ 9223372036854775807 := by
  have h1 := dec_len (n := n) (k := 28) (by unfold mostA at hn; omega) (by omega)
  rw [← size_toB, ← size_toB]
  show (Lib.decDigits n).length + s.length ≤ _
  omega
theorem atext_ok (h l : Int) (hk : okW h l) : PF 41 (.cons (wP h l) .nil) (.str fun _ => atB2 (wN h l)) := by
  refine (⟨Tryd.func41, rfl, rfl, rfl, ⟨rfl, rfl⟩, ok _⟩ : FN 41 Tryd.f41).tree (mkO_ok Fg3_ok) false 40 rfl ?_
  conv => arg 5; cbv
  have hz := wN_zero hk
  have e1 := wHi_wN hk
  have e2 := wLo_wN hk
  generalize wN h l = v at *
  have hfits : (!decide (v ≤ 1152921504606846976 * 1000000000)) = decide (mostA < v) := by
    rw [Bool.eq_iff_iff]; simp
  rw [hfits]
  refine ⟨⟨hk, trivial⟩, fun g => ⟨rfl, ?_⟩, fun g => ⟨fun g2 => ⟨rfl, ?_⟩, fun g2 => ?_⟩⟩
  · (replace g := of_decide_eq_true g); (try dsimp only at g); (try simp only [cast_fold, Int.ofNat_eq_natCast] at g)
    show (⟨#[]⟩ : ByteArray) = atB2 v
    unfold atB2; rw [if_neg (by omega)]
  · (replace g := of_decide_eq_false g); (try dsimp only at g); (try simp only [cast_fold, Int.ofNat_eq_natCast] at g)
    have g2 : h = 0 ∧ l = 0 := by simpa using g2
    have : v = 0 := hz.2 g2
    subst this
    rfl
  (replace g := of_decide_eq_false g); (try dsimp only at g); (try simp only [cast_fold, Int.ofNat_eq_natCast] at g)
  have g2 : ¬ (h = 0 ∧ l = 0) := by simpa using g2
  have hv0 : v ≠ 0 := fun hc => g2 (hz.1 hc)
  have hB : atB2 v = toB (atext v) := if_pos (by omega)
  rw [hB]
  refine run_inv (ι := Nat × Nat) (fun x => 9 - x.2) (TxI v) txA txS 1 (v, 0) (fun i => i) (by rfl) (by rfl) ⟨Nat.zero_le _, Nat.le_refl _, ?_⟩ ?_ ⟨impP_refl _, ?_, impP_refl _, trivial⟩ ⟨⟨⟨rfl, e1.symm⟩, ⟨rfl, e2.symm⟩, rfl⟩, trivial⟩
  · unfold atext
    rw [if_neg hv0, Nat.zero_add]; rfl
  · intro x hx ih
    obtain ⟨y, i⟩ := x
    have hi : i ≤ 9 := hx.i
    have hy : y ≤ v := hx.le
    have he : Lib.decDigits (thou (9 - i) y).1 ++ sufA (i + (thou (9 - i) y).2) = atext v := hx.e
    have hyW : y < W128 := by unfold mostA at g; unfold W128; omega
    have hsz := size_ok y (by omega) (sufA i) (sufA_le i).1
    have hend : (thou (9 - i) y) = (y, 0) → impP (.str fun _ => toB (Lib.decDigits y) ++ toB (sufA i)) (.str fun _ => toB (atext v)) := fun hc => by
      rw [hc] at he
      show toB (Lib.decDigits y) ++ toB (sufA i) = toB (atext v)
      rw [← he, toB_cat]; rfl
    have tn : ∀ n : Nat, ((n : Nat) : Int).toNat = n := fun n => Int.toNat_natCast n
    refine explore_ok (ok _) (mkO_ok Fg3_ok) (u := false) 20 _ rfl ?_
    conv => arg 5; cbv
    simp only [wN_of, show Int.toNat 1000 = 1000 from rfl, byR_thou, tn]
    have hw9 : IntKind.i64.wrap (10 - 1) = 9 := by decide
    simp only [hw9]
    have hir : 0 ≤ (i : Int) ∧ (i : Int) < 10 := by omega
    refine ⟨fun k => ⟨⟨⟨okW_of hyW, by decide⟩, trivial⟩, fun k2 => ⟨⟨okW_of hyW, hir, hsz, (by show drawOK _ _ = true; decide +kernel), trivial⟩, rfl, hend ?_⟩, fun k2 => ?_⟩, fun k => ⟨⟨okW_of hyW, hir, hsz, (by show drawOK _ _ = true; decide +kernel), trivial⟩, rfl, hend ?_⟩⟩
    · (replace k := of_decide_eq_true k); (try dsimp only at k); (try simp only [cast_fold, Int.ofNat_eq_natCast] at k)
      have k2 := bneT k2
      obtain ⟨f, hf⟩ : ∃ f, 9 - i = f + 1 := ⟨8 - i, by omega⟩
      rw [hf, thou, if_neg (by omega)]
    · (replace k := of_decide_eq_true k); (try dsimp only at k); (try simp only [cast_fold, Int.ofNat_eq_natCast] at k)
      have k2 := bneF k2
      have hw : IntKind.i64.wrap ((i : Int) + 1) = ((i + 1 : Nat) : Int) := by rw [IntWalk.i64_in _ ⟨by omega, by omega⟩]; omega
      refine ih (y / 1000, i + 1) (fun i => i) ⟨by show i + 1 ≤ 9; omega, by show y / 1000 ≤ v; omega, ?_⟩ (by show 9 - (i + 1) < 9 - i; omega) (by rfl) ⟨⟨rfl, hw⟩, impP_refl _, impP_refl _, trivial⟩ ⟨impP_refl _, trivial⟩
      show Lib.decDigits (thou (9 - (i + 1)) (y / 1000)).1 ++ sufA (i + 1 + (thou (9 - (i + 1)) (y / 1000)).2) = atext v
      rw [← he, show 9 - i = 9 - (i + 1) + 1 by omega, thou, if_pos (by omega)]
      show _ = Lib.decDigits (thou (9 - (i + 1)) (y / 1000)).1 ++ sufA (i + ((thou (9 - (i + 1)) (y / 1000)).2 + 1))
      rw [show i + 1 + (thou (9 - (i + 1)) (y / 1000)).2 = i + ((thou (9 - (i + 1)) (y / 1000)).2 + 1) by omega]
    · (replace k := of_decide_eq_false k); (try dsimp only at k); (try simp only [cast_fold, Int.ofNat_eq_natCast] at k)
      rw [show 9 - i = 0 by omega]; rfl
  · refine ⟨.inl rfl, rfl, rfl, fun j h0 h1 => ?_⟩
    have h1 : j < 10 := h1
    have : j = 0 ∨ j = 1 ∨ j = 2 ∨ j = 3 ∨ j = 4 ∨ j = 5 ∨ j = 6 ∨ j = 7 ∨ j = 8 ∨ j = 9 := by omega
    rcases this with rfl | rfl | rfl | rfl | rfl | rfl | rfl | rfl | rfl | rfl <;> exact rfl
noncomputable def Fg4 : Table := addS 41 (.cons shWide .nil) (fun h l => (.str fun _ => atB2 (wN (h ()) (l ())), [fun _ => okW (h ()) (l ())])) Fg3
theorem Fg4_ok : TableOK Tryd.prog G0 Fg4 := addS_ok (⟨Tryd.func41, rfl, rfl, rfl, ⟨rfl, rfl⟩, ok _⟩ : FN 41 Tryd.f41).callable (fun h l c => atext_ok (h ()) (l ()) c.1) Fg3_ok
def btB (v : Nat) : ByteArray := if v ≤ mostA then toB (btext v) else ⟨#[]⟩
def sBP : PV := .slice none 1 (fun _ => 7) fun j => .str fun _ => toB (sufB (j ()).toNat)
def bxA (x : Nat × Nat) : Env := [(9, .int .i64 fun _ => (x.2 : Int)), (8, sBP), (6, .int .u64 fun _ => (x.1 : Int))]
structure BxI (v : Nat) (x : Nat × Nat) : Prop where
  i : x.2 ≤ 6
  le : x.1 ≤ v
  e : Lib.decDigits (kibi (6 - x.2) x.1).1 ++ sufB (x.2 + (kibi (6 - x.2) x.1).2) = Lib.decDigits (kibi 6 v).1 ++ sufB (kibi 6 v).2
theorem and_1023 {n : Nat} (h : n < 18446744073709551616) : bitAnd .u64 (n : Int) 1023 = ((n % 1024 : Nat) : Int) := by
  rw [show (1023 : Int) = ((1023 : Nat) : Int) from rfl, and_nat (by omega) (by omega)]
  exact congrArg _ (Nat.and_two_pow_sub_one_eq_mod n 10)
theorem btext_ok (h l : Int) (hk : okW h l) : PF 43 (.cons (wP h l) .nil) (.str fun _ => btB (wN h l)) := by
  refine (⟨Tryd.func43, rfl, rfl, rfl, ⟨rfl, rfl⟩, ok _⟩ : FN 43 Tryd.f43).tree (mkO_ok Fg4_ok) false 40 rfl ?_
  conv => arg 5; cbv
  generalize hV : wN h l = v at *
  have hfits : (!decide (v ≤ 1152921504606846976 * 1000000000)) = decide (mostA < v) := by
    rw [Bool.eq_iff_iff]; simp
  have e9 : Int.toNat 1000000000 = 1000000000 := rfl
  have hA : ¬ v ≤ mostA → atB2 v = btB v := fun hc => by unfold atB2 btB; rw [if_neg hc, if_neg hc]
  have hB : v ≤ mostA → (v % 1000000000 ≠ 0 ∨ v / 1000000000 = 0 ∨ v / 1000000000 % 1024 ≠ 0) → atB2 v = btB v := fun h1 h2 => by
    unfold atB2 btB btext; rw [if_pos h1, if_pos h1, if_pos h2]
  have hq : v ≤ mostA → (if wHi (v / 1000000000) = 0 then wLo (v / 1000000000) else 0) = ((v / 1000000000 : Nat) : Int) := fun h1 => by
    have : v / 1000000000 ≤ 1152921504606846976 := by unfold mostA at h1; omega
    rw [wHi_small (by omega), if_pos rfl, wLo_small (by omega)]
  simp only [hfits, e9, byR_bill]
  refine ⟨⟨⟨hk, by decide⟩, hk, trivial⟩, fun g => ⟨⟨hk, trivial⟩, rfl, ?_⟩, fun g => ?_⟩
  · (replace g := of_decide_eq_true g); (try dsimp only at g); (try simp only [cast_fold, Int.ofNat_eq_natCast] at g)
    exact hA (by omega)
  (replace g := of_decide_eq_false g); (try dsimp only at g); (try simp only [cast_fold, Int.ofNat_eq_natCast] at g)
  have g : v ≤ mostA := by omega
  have hq := hq g
  generalize hn : v / 1000000000 = n at *
  have hn1 : n ≤ 1152921504606846976 := by unfold mostA at g; omega
  simp only [hq, and_1023 (show n < 18446744073709551616 by omega)]
  refine ⟨fun k => ⟨⟨hk, trivial⟩, rfl, ?_⟩, fun k => ⟨fun k2 => ⟨⟨hk, trivial⟩, rfl, ?_⟩, fun k2 => ⟨fun k3 => ⟨⟨hk, trivial⟩, rfl, ?_⟩, fun k3 => ?_⟩⟩⟩
  · have k := bneT k
    exact hB g (.inl (by omega))
  · have k2 := beqT k2
    exact hB g (.inr (.inl (by omega)))
  · have k3 := bneT k3
    exact hB g (.inr (.inr (by omega)))
  have k := bneF k
  have k2 := beqF k2
  have k3 := bneF k3
  have hR : btB v = toB (Lib.decDigits (kibi 6 n).1 ++ sufB (kibi 6 n).2) := by
    unfold btB btext
    rw [if_pos g, hn, if_neg (by omega)]
  rw [hR]
  refine run_inv (ι := Nat × Nat) (fun x => 6 - x.2) (BxI n) bxA (fun _ => []) 0 (n, 0) (fun i => i) (by rfl) (by rfl) ⟨Nat.zero_le _, Nat.le_refl _, by rw [Nat.zero_add]; rfl⟩ ?_ ⟨impP_refl _, ?_, impP_refl _, trivial⟩ trivial
  · intro x hx ih
    obtain ⟨y, i⟩ := x
    have hi : i ≤ 6 := hx.i
    have hy : y ≤ n := hx.le
    have he : Lib.decDigits (kibi (6 - i) y).1 ++ sufB (i + (kibi (6 - i) y).2) = Lib.decDigits (kibi 6 n).1 ++ sufB (kibi 6 n).2 := hx.e
    have hsz := size_ok y (by unfold mostA; omega) (sufB i) (sufA_le i).2
    have hend : (kibi (6 - i) y) = (y, 0) → impP (.str fun _ => toB (Lib.decDigits y) ++ toB (sufB i)) (.str fun _ => toB (Lib.decDigits (kibi 6 n).1 ++ sufB (kibi 6 n).2)) := fun hc => by
      rw [hc] at he
      show toB (Lib.decDigits y) ++ toB (sufB i) = toB (Lib.decDigits (kibi 6 n).1 ++ sufB (kibi 6 n).2)
      rw [← he, toB_cat]; rfl
    have tn : ∀ n : Nat, ((n : Nat) : Int).toNat = n := fun n => Int.toNat_natCast n
    have hw6 : IntKind.i64.wrap (7 - 1) = 6 := by decide
    have hir : 0 ≤ (i : Int) ∧ (i : Int) < 7 := by omega
    have hand := and_1023 (show y < 18446744073709551616 by omega)
    have hshr : shr .u64 (y : Int) 10 = ((y / 1024 : Nat) : Int) := shr_nat y 10 (by omega)
    refine explore_ok (ok _) (mkO_ok Fg4_ok) (u := false) 20 _ rfl ?_
    conv => arg 5; cbv
    simp only [wN_of, tn, hw6, hand, hshr, wN_small]
    have hyW : okW 0 (y : Int) := okW_small (by omega)
    refine ⟨fun k => ⟨fun k2 => ⟨⟨by decide, trivial⟩, ?_⟩, fun k2 => ⟨⟨hyW, hir, hsz, (by show drawOK _ _ = true; decide +kernel), trivial⟩, rfl, hend ?_⟩⟩, fun k => ⟨⟨hyW, hir, hsz, (by show drawOK _ _ = true; decide +kernel), trivial⟩, rfl, hend ?_⟩⟩
    · (replace k := of_decide_eq_true k); (try dsimp only at k); (try simp only [cast_fold, Int.ofNat_eq_natCast] at k)
      have k2 := beqT k2
      have hw : IntKind.i64.wrap ((i : Int) + 1) = ((i + 1 : Nat) : Int) := by rw [IntWalk.i64_in _ ⟨by omega, by omega⟩]; omega
      refine ih (y / 1024, i + 1) (fun i => i) ⟨by show i + 1 ≤ 6; omega, by show y / 1024 ≤ n; omega, ?_⟩ (by show 6 - (i + 1) < 6 - i; omega) (by rfl) ⟨⟨rfl, hw⟩, impP_refl _, impP_refl _, trivial⟩ trivial
      show Lib.decDigits (kibi (6 - (i + 1)) (y / 1024)).1 ++ sufB (i + 1 + (kibi (6 - (i + 1)) (y / 1024)).2) = _
      rw [← he, show 6 - i = 6 - (i + 1) + 1 by omega, kibi, if_pos (by omega)]
      show _ = Lib.decDigits (kibi (6 - (i + 1)) (y / 1024)).1 ++ sufB (i + ((kibi (6 - (i + 1)) (y / 1024)).2 + 1))
      rw [show i + 1 + (kibi (6 - (i + 1)) (y / 1024)).2 = i + ((kibi (6 - (i + 1)) (y / 1024)).2 + 1) by omega]
    · (replace k := of_decide_eq_true k); (try dsimp only at k); (try simp only [cast_fold, Int.ofNat_eq_natCast] at k)
      have k2 := beqF k2
      obtain ⟨f, hf⟩ : ∃ f, 6 - i = f + 1 := ⟨5 - i, by omega⟩
      rw [hf, kibi, if_neg (by omega)]
    · (replace k := of_decide_eq_false k); (try dsimp only at k); (try simp only [cast_fold, Int.ofNat_eq_natCast] at k)
      rw [show 6 - i = 0 by omega]; rfl
  · refine ⟨.inl rfl, rfl, rfl, fun j h0 h1 => ?_⟩
    have h1 : j < 7 := h1
    have : j = 0 ∨ j = 1 ∨ j = 2 ∨ j = 3 ∨ j = 4 ∨ j = 5 ∨ j = 6 := by omega
    rcases this with rfl | rfl | rfl | rfl | rfl | rfl | rfl <;> exact rfl
noncomputable def Fg5 : Table := addS 43 (.cons shWide .nil) (fun h l => (.str fun _ => btB (wN (h ()) (l ())), [fun _ => okW (h ()) (l ())])) Fg4
theorem Fg5_ok : TableOK Tryd.prog G0 Fg5 := addS_ok (⟨Tryd.func43, rfl, rfl, rfl, ⟨rfl, rfl⟩, ok _⟩ : FN 43 Tryd.f43).callable (fun h l c => btext_ok (h ()) (l ()) c.1) Fg4_ok
end Go.Proofs.YtdikfhjpnfffnacDoor
