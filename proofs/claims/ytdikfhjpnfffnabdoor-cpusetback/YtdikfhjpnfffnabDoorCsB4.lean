/- SETS OF PROCESSORS: there and back: the law. -/
import Derived.Test.YtdikfhjpnfffnabDoorCsG
import Derived.Test.YtdikfhjpnfffnabDoorCsV
set_option maxRecDepth 2000
set_option linter.unusedVariables false
set_option linter.unusedSimpArgs false
set_option linter.unusedVariables false
set_option linter.unusedSimpArgs false
namespace Go.Proofs.YtdikfhjpnfffnabDoor
open Go Go.Abs Go.Proofs
theorem pieces_bound : ∀ (n : Nat) (l : List Int), cnt (bitAt l) 256 ≤ n → (pieces l).length ≤ n ∧ ∀ x ∈ pieces l, x.size ≤ 43
  | n, l, h => by
    cases hf : firstOf (bitAt l) 256 with
    | none => rw [pieces_none hf]; exact ⟨Nat.zero_le _, fun x hx => by cases hx⟩
    | some m =>
      have hlt := cutRun_lt hf
      cases n with
      | zero => omega
      | succ n =>
        have ih := pieces_bound n (cutRun l m) (by omega)
        rw [pieces_some hf]
        have hm := (firstOf_some.1 hf).1
        refine ⟨by rw [List.length_cons]; omega, fun x hx => ?_⟩
        rcases List.mem_cons.1 hx with rfl | hx
        · exact pieceB_size hm (runEnd_lt hm)
        · exact ih.2 x hx
theorem text_size (l : List Int) : (textB l).size < 4294967281 := by
  obtain ⟨h1, h2⟩ := pieces_bound 256 l (cnt_le _ _)
  have h3 := joinB_size (sep := ⟨#[44]⟩) h2
  have h4 : (⟨#[44]⟩ : ByteArray).size = 1 := rfl
  rw [h4] at h3
  have h5 : (pieces l).length * (43 + 1) ≤ 256 * 44 := Nat.mul_le_mul h1 (by omega)
  unfold textB
  cases decide ((((pieces l).length : Nat) : Int) = 0) with
  | true => exact (by decide : (⟨#[45]⟩ : ByteArray).size < 4294967281)
  | false => show (joinB (pieces l) ⟨#[44]⟩).size < _; omega
theorem cnt_three (p q : Nat → Bool) : ∀ n, cnt (fun i => p i && q i) n + cnt (fun i => p i && !q i) n + cnt (fun i => q i && !p i) n = cnt (fun i => p i || q i) n
  | 0 => rfl
  | n + 1 => by
    have ih := cnt_three p q n
    rcases Bool.eq_false_or_eq_true (p n) with hp | hp <;> rcases Bool.eq_false_or_eq_true (q n) with hq | hq <;> simp [cnt, hp, hq] <;> omega
theorem cnt_set (p : Nat → Bool) : cnt (bitAt (setOf p)) 256 = cnt p 256 := cnt_ext fun i hi => bitAt_setOf hi
theorem lim_any (a : List Int) : ∀ i, i < 256 → bitAt a i = true → (i : Int) < itoaLim := fun i hi _ => by unfold itoaLim; omega
theorem back_ok (a b : List Int) (ha : okSet a) (hb : okSet b) : PF 5 (.cons (.arrI .u64 4 fun _ => a) (.cons (.arrI .u64 4 fun _ => b) .nil)) .tt := by
  refine (⟨Tryd.func5, rfl, rfl, rfl, ⟨rfl, rfl⟩, ok _⟩ : FN 5 Tryd.f5).tree (mkO_ok Fg1_ok) false 60 rfl ?_
  conv => arg 5; cbv
  have hp := parse_text ha
  have o := fun p => okSet_setOf p
  have c3 : setOf (fun i => bitAt (setOf fun i => bitAt (setOf fun i => bitAt a i && bitAt b i) i || bitAt (setOf fun i => bitAt a i && !bitAt b i) i) i || bitAt (setOf fun i => bitAt b i && !bitAt a i) i) = setOf fun i => bitAt a i || bitAt b i := setOf_ext fun i hi => by
    rw [bitAt_setOf hi, bitAt_setOf hi, bitAt_setOf hi, bitAt_setOf hi]
    cases bitAt a i <;> cases bitAt b i <;> rfl
  have n1 := cnt_le (fun i => bitAt a i && bitAt b i) 256
  have n2 := cnt_le (fun i => bitAt a i && !bitAt b i) 256
  have n3 := cnt_le (fun i => bitAt b i && !bitAt a i) 256
  have nt := cnt_three (bitAt a) (bitAt b) 256
  have c4 : (IntKind.i64.wrap (IntKind.i64.wrap (((cnt (bitAt (setOf fun i => bitAt a i && bitAt b i)) 256 : Nat) : Int) + ((cnt (bitAt (setOf fun i => bitAt a i && !bitAt b i)) 256 : Nat) : Int)) + ((cnt (bitAt (setOf fun i => bitAt b i && !bitAt a i)) 256 : Nat) : Int)) == ((cnt (bitAt (setOf fun i => bitAt a i || bitAt b i)) 256 : Nat) : Int)) = true := by
    rw [cnt_set, cnt_set, cnt_set, cnt_set, IntWalk.i64_in (((cnt (fun i => bitAt a i && bitAt b i) 256 : Nat) : Int) + ((cnt (fun i => bitAt a i && !bitAt b i) 256 : Nat) : Int)) ⟨by omega, by omega⟩, IntWalk.i64_in _ ⟨by omega, by omega⟩]
    simp only [beq_iff_eq]
    omega
  have c5 : setOf (fun i => bitAt (setOf fun i => bitAt a i && !bitAt b i) i && bitAt (setOf fun i => bitAt b i && !bitAt a i) i) = List.replicate 4 0 := by
    rw [show List.replicate 4 (0 : Int) = [0, 0, 0, 0] from rfl, ← setOf_zero]
    refine setOf_ext fun i hi => ?_
    rw [bitAt_setOf hi, bitAt_setOf hi]
    cases bitAt a i <;> cases bitAt b i <;> rfl
  have c6 : sub (bitAt (setOf fun i => bitAt a i && bitAt b i)) (bitAt a) = true := sub_iff.2 fun i hi h => by
    rw [bitAt_setOf hi, Bool.and_eq_true] at h
    exact h.1
  refine ⟨⟨⟨ha, lim_any a⟩, text_size a, ⟨ha, hb⟩, ⟨ha, hb⟩, ⟨hb, ha⟩, by show drawOK _ _ = true; kernel_rfl, trivial⟩, fun _ => ⟨fun _ => ⟨⟨⟨o _, o _⟩, ⟨o _, o _⟩, ⟨ha, hb⟩, trivial⟩, fun _ => ⟨⟨o _, o _, o _, ⟨ha, hb⟩, o _, trivial⟩, fun _ => ⟨⟨⟨o _, o _⟩, trivial⟩, fun _ => ⟨⟨⟨o _, ha⟩, by show drawOK _ _ = true; kernel_rfl, trivial⟩, rfl, c6⟩, fun g => absurd c5 (of_decide_eq_false g)⟩, fun g => ?_⟩, fun g => absurd c3 (of_decide_eq_false g)⟩, fun g => ?_⟩, fun g => ?_⟩
  · exact absurd (c4.symm.trans g) Bool.noConfusion
  · exact absurd (show (parseS (textB a)).1 = a by rw [hp]) (of_decide_eq_false g)
  · have g : ((parseS (textB a)).2 == 0) = false := g
    rw [hp] at g
    cases g
end Go.Proofs.YtdikfhjpnfffnabDoor
