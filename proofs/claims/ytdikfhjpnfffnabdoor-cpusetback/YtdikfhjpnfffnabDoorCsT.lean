/- SETS OF PROCESSORS: the text of a set. -/
import Derived.Test.YtdikfhjpnfffnabDoorCsD
import Derived.Test.YtdikfhjpnfffnabDoorLibA
set_option maxRecDepth 2000
set_option linter.unusedVariables false
set_option linter.unusedSimpArgs false
set_option linter.unusedVariables false
set_option linter.unusedSimpArgs false
namespace Go.Proofs.YtdikfhjpnfffnabDoor
open Go Go.Abs Go.Proofs
noncomputable abbrev Ft : Table := withLib Fd1
theorem Ft_ok : TableOK Tryd.prog G0 Ft := withLib_ok Fd1_ok
def tA (x : List Int × List ByteArray) : Env := [(5, .bool fun _ => (firstOf (bitAt x.1) 256).isSome), (4, .int .i64 fun _ => (((firstOf (bitAt x.1) 256).getD 0 : Nat) : Int)), (3, .slice (some 1) 1 (fun _ => (x.2.length : Int)) fun j => .str fun _ => x.2.getD (j ()).toNat ByteArray.empty), (1, .ptr 0 0)]
def tS (x : List Int × List ByteArray) : Store := [(1, .own 1 9), (0, .var (.arrI .u64 4 fun _ => x.1))]
def ren21 : Nat → Nat := fun i => bif beqN i 1 then 2 else i
structure TI0 (l0 : List Int) (x : List Int × List ByteArray) : Prop where
  ok : okSet x.1
  all : x.2 ++ pieces x.1 = pieces l0
  few : x.2.length + cnt (bitAt x.1) 256 ≤ 256
  lim : ∀ i, i < 256 → bitAt x.1 i = true → (i : Int) < itoaLim
  size : ∀ y ∈ x.2, y.size ≤ 43
theorem text_ok (l : List Int) (hl : okSet l) (hlim : ∀ i, i < 256 → bitAt l i = true → (i : Int) < itoaLim) : PF 10 (.cons (.arrI .u64 4 fun _ => l) .nil) (.str fun _ => textB l) := by
  refine (⟨Tryd.func10, rfl, rfl, rfl, ⟨rfl, rfl⟩, ok _⟩ : FN 10 Tryd.f10).tree (mkO_ok Ft_ok) false 40 rfl ?_
  conv => arg 5; cbv
  refine ⟨⟨hl, trivial⟩, ?_⟩
  refine run_own (A := _) 3 1 9 (.str fun _ => ByteArray.empty) (by rfl) (by rfl) (by rfl) ?_
  refine run_inv (ι := List Int × List ByteArray) (fun x => cnt (bitAt x.1) 256) (TI0 l) tA tS 2 (l, []) (fun i => i) (by rfl) (by rfl) ⟨hl, rfl, by have := cnt_le (bitAt l) 256; simp only [List.length_nil]; omega, hlim, fun y hy => by cases hy⟩ ?_ ?_ ?_
  · intro x hx ih
    refine explore_ok (ok _) (mkO_ok Ft_ok) (u := false) 20 _ rfl ?_
    conv => arg 5; cbv
    refine ⟨fun h => ?_, fun h => ?_⟩
    · obtain ⟨m, hm⟩ := Option.isSome_iff_exists.1 h
      obtain ⟨h1, h2, h3⟩ := firstOf_some.1 hm
      have hm' : (firstOf (bitAt x.1) 256).getD 0 = m := by rw [hm]; rfl
      have he := runEnd_ge (bitAt x.1) m
      have he2 := runEnd_lt (p := bitAt x.1) h1
      have hm3 : (m : Int) < itoaLim := hx.lim m h1 h2
      have he3 : ((runEnd (bitAt x.1) m : Nat) : Int) < itoaLim := by
        by_cases e : m < runEnd (bitAt x.1) m
        · exact hx.lim _ he2 (runF_in _ _ _ _ e (Nat.le_refl _))
        · rw [show runEnd (bitAt x.1) m = m by omega]; exact hm3
      have s1 := itoaB_size h1
      have s2 := itoaB_size he2
      have s3 : (⟨#[45]⟩ : ByteArray).size = 1 := rfl
      have hall := hx.all
      rw [pieces_some hm] at hall
      have hcut := cutRun_lt hm
      have hfew := hx.few
      have nx : TI0 l (cutRun x.1 m, x.2 ++ [pieceB m (runEnd (bitAt x.1) m)]) :=
        ⟨okSet_setOf _, by rw [← hall, List.append_assoc]; rfl, by simp only [List.length_append, List.length_singleton]; omega, fun i hi hb => by
          rw [cutRun_bit _ _ hi, Bool.and_eq_true] at hb
          exact hx.lim i hi hb.1, fun y hy => by
          rcases List.mem_append.1 hy with hy | hy
          · exact hx.size y hy
          · rw [List.mem_singleton] at hy; subst hy; exact pieceB_size h1 he2⟩
      simp only [hm', Int.toNat_natCast, cast_fold]
      refine ⟨⟨⟨hx.ok, by omega, by omega⟩, ⟨by omega, hm3⟩, trivial⟩, fun h4 => ?_, fun h4 => ?_⟩
      · simp only [decide_eq_true_eq, Int.ofNat_eq_natCast, cast_fold] at h4
        have hp : pieceB m (runEnd (bitAt x.1) m) = itoaB m ++ (⟨#[45]⟩ ++ itoaB (runEnd (bitAt x.1) m : Nat)) := by
          simp [pieceB, h4]
        rw [hp] at nx
        refine ⟨⟨⟨by omega, he3⟩, ?_, ?_, ⟨by omega, ?_⟩, ?_, ⟨hx.ok, okSet_setOf _⟩, ?_, okSet_setOf _, trivial⟩, ih _ ren21 nx hcut (by rfl) ⟨rfl, ⟨rfl, rfl⟩, push_imp .str (some 2) 1 x.2 _, impP_refl _, trivial⟩ ⟨⟨rfl, rfl⟩, ⟨rfl, rfl, rfl⟩, trivial⟩⟩
        · show (⟨#[45]⟩ : ByteArray).size + (itoaB (runEnd (bitAt x.1) m : Nat)).size ≤ 9223372036854775807
          omega
        · show (itoaB m).size + ((⟨#[45]⟩ : ByteArray) ++ itoaB (runEnd (bitAt x.1) m : Nat)).size ≤ 9223372036854775807
          rw [ByteArray.size_append]
          omega
        · show ((x.2.length : Int) + 1) * 16 ≤ 140737488355328
          omega
        · show (m : Int) ≤ 9223372036854775807
          omega
        · show drawOK _ _ = true
          conv => lhs; cbv
      · simp only [decide_eq_false_iff_not, Int.ofNat_eq_natCast, cast_fold] at h4
        have hp : pieceB m (runEnd (bitAt x.1) m) = itoaB m := by
          unfold pieceB
          rw [show decide (((runEnd (bitAt x.1) m : Nat) : Int) > (m : Int)) = false by simp only [decide_eq_false_iff_not]; exact h4]
          rfl
        rw [hp] at nx
        refine ⟨⟨⟨by omega, ?_⟩, ?_, ⟨hx.ok, okSet_setOf _⟩, ?_, okSet_setOf _, trivial⟩, ih _ ren21 nx hcut (by rfl) ⟨rfl, ⟨rfl, rfl⟩, push_imp .str (some 2) 1 x.2 _, impP_refl _, trivial⟩ ⟨⟨rfl, rfl⟩, ⟨rfl, rfl, rfl⟩, trivial⟩⟩
        · show ((x.2.length : Int) + 1) * 16 ≤ 140737488355328
          omega
        · show (m : Int) ≤ 9223372036854775807
          omega
        · show drawOK _ _ = true
          conv => lhs; cbv
    · have hn : firstOf (bitAt x.1) 256 = none := by simpa using h
      have hall := hx.all
      rw [pieces_none hn, List.append_nil] at hall
      have hfew := hx.few
      have hsz := joinB_size (sep := ⟨#[44]⟩) hx.size
      have s4 : (⟨#[44]⟩ : ByteArray).size = 1 := rfl
      rw [s4] at hsz
      have hmul : x.2.length * (43 + 1) ≤ 256 * 44 := Nat.mul_le_mul (by omega) (by omega)
      refine ⟨fun h5 => ⟨rfl, ?_⟩, fun h5 => ⟨⟨⟨?_, ?_⟩, fun j => trivial, trivial⟩, rfl, ?_⟩⟩
      · have h5 : decide ((x.2.length : Int) = 0) = true := h5
        show (⟨#[45]⟩ : ByteArray) = textB l
        rw [textB, ← hall, h5]; rfl
      · show (rdL (α := ByteArray) Sh.str.rd (fun _ => (x.2.length : Int)) fun j => .str fun _ => x.2.getD (j ()).toNat ByteArray.empty).length ≤ _
        rw [rdL_str]
        omega
      · show (joinB (rdL (α := ByteArray) Sh.str.rd (fun _ => (x.2.length : Int)) fun j => .str fun _ => x.2.getD (j ()).toNat ByteArray.empty) ⟨#[44]⟩).size ≤ _
        rw [rdL_str]
        omega
      · have h5 : decide ((x.2.length : Int) = 0) = false := h5
        show joinB (rdL (α := ByteArray) Sh.str.rd (fun _ => (x.2.length : Int)) fun j => .str fun _ => x.2.getD (j ()).toNat ByteArray.empty) ⟨#[44]⟩ = textB l
        rw [rdL_str]
        show joinB x.2 ⟨#[44]⟩ = textB l
        rw [textB, ← hall, h5]; rfl
  · exact ⟨impP_refl _, impP_refl _, ⟨.inr rfl, rfl, rfl, fun j h0 h1 => absurd h1 (by show ¬ j < 0; omega)⟩, impP_refl _, trivial⟩
  · exact ⟨⟨rfl, rfl⟩, impP_refl _, trivial⟩
noncomputable def Ft1 : Table := addS 10 (.cons shSet .nil) (fun a => (.str fun _ => textB (a ()), [fun _ => okSet (a ()) ∧ ∀ i, i < 256 → bitAt (a ()) i = true → (i : Int) < itoaLim])) Ft
theorem Ft1_ok : TableOK Tryd.prog G0 Ft1 := addS_ok (⟨Tryd.func10, rfl, rfl, rfl, ⟨rfl, rfl⟩, ok _⟩ : FN 10 Tryd.f10).callable (fun a _ h => text_ok (a ()) h.1.1 h.1.2) Ft_ok
end Go.Proofs.YtdikfhjpnfffnabDoor
