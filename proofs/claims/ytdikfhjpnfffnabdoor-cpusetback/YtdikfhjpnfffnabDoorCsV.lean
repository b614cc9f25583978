/- SETS OF PROCESSORS: there and back, and two sets. -/
import Derived.Test.YtdikfhjpnfffnabDoorCsP
import Derived.Test.YtdikfhjpnfffnabDoorGc
set_option maxRecDepth 2000
set_option linter.unusedVariables false
set_option linter.unusedSimpArgs false
set_option linter.unusedVariables false
set_option linter.unusedSimpArgs false
namespace Go.Proofs.YtdikfhjpnfffnabDoor
open Go Go.Abs Go.Proofs
attribute [local irreducible] setOf pieces itoaB
theorem part_piece {m e : Nat} (hm : m < 256) (he : e < 256) (hle : m ≤ e) : partS (pieceB m e) = ((m : Int), (e : Int), 0) := by
  obtain ⟨h1, h2, _⟩ := dig_ok m hm
  obtain ⟨g1, g2, _⟩ := dig_ok e he
  have v1 := numV_ok (s := itoaB m) (by omega) (by omega)
  have v2 := numV_ok (s := itoaB e) (by omega) (by omega)
  unfold partS
  by_cases hlt : m < e
  · have ep : pieceB m e = itoaB m ++ ((⟨#[45]⟩ : ByteArray) ++ itoaB e) := by
      unfold pieceB
      rw [show decide ((e : Int) > m) = true by simp only [decide_eq_true_eq]; omega]; rfl
    have hc : cutB (pieceB m e) dash = (itoaB m, itoaB e, true) := by
      unfold cutB
      have : (pieceB m e).data.toList = (itoaB m).data.toList ++ 45 :: (itoaB e).data.toList := by
        rw [ep, ByteArray.data_append, Array.toList_append, ByteArray.data_append, Array.toList_append]; rfl
      rw [this, show dash.data.toList = [45] from rfl, cut_two h2 g2]
    rw [hc]
    unfold part3
    rw [v1.1, v1.2, v2.1, v2.2, h1, g1]
    rw [show decide ((e : Int) ≤ m) = false by simp only [decide_eq_false_iff_not]; omega]
    rfl
  · have hme : m = e := by omega
    subst hme
    have ep : pieceB m m = itoaB m := by
      unfold pieceB
      rw [show decide ((m : Int) > m) = false by simp only [decide_eq_false_iff_not]; omega]; rfl
    have hc : cutB (pieceB m m) dash = (itoaB m, ByteArray.empty, false) := by
      unfold cutB
      rw [ep, show dash.data.toList = [45] from rfl, cut_none h2]
      rfl
    rw [hc]
    unfold part3
    rw [v1.1, v1.2, h1]
    rfl
theorem parse_pieces : ∀ (n : Nat) (l : List Int) (q : Nat → Bool), cnt (bitAt l) 256 ≤ n → (∀ i, i < 256 → bitAt l i = true → q i = false) → parseL (pieces l) q = (setOf fun i => q i || bitAt l i, 0)
  | n, l, q, h, hq => by
    cases hf : firstOf (bitAt l) 256 with
    | none =>
      rw [pieces_none hf, parseL]
      congr 1
      exact setOf_ext fun i hi => by rw [firstOf_none.1 hf i hi, Bool.or_false]
    | some m =>
      have hlt := cutRun_lt hf
      obtain ⟨h1, h2, h3⟩ := firstOf_some.1 hf
      have hge := runEnd_ge (bitAt l) m
      have hre := runEnd_lt (p := bitAt l) h1
      have hin : ∀ i, i < 256 → between (m : Int) (runEnd (bitAt l) m : Nat) i = true → bitAt l i = true := fun i hi hb => by
        simp only [between, inRange, Bool.and_eq_true, decide_eq_true_eq] at hb
        by_cases e : i = m
        · rw [e]; exact h2
        · exact runF_in (bitAt l) (255 - m) m i (by omega) (by have := hb.2; show i ≤ runEnd (bitAt l) m; omega)
      cases n with
      | zero => omega
      | succ n =>
        rw [pieces_some hf, parseL, part_piece h1 hre hge]
        have hz : setOf (fun i => q i && between (m : Int) (runEnd (bitAt l) m : Nat) i) = [0, 0, 0, 0] := by
          rw [← setOf_zero]
          refine setOf_ext fun i hi => ?_
          cases hb : between (m : Int) (runEnd (bitAt l) m : Nat) i with
          | false => rw [Bool.and_false]
          | true => rw [hq i hi (hin i hi hb), Bool.false_and]
        show (bif decide (setOf (fun i => q i && between (m : Int) (runEnd (bitAt l) m : Nat) i) = [0, 0, 0, 0]) then parseL (pieces (cutRun l m)) (fun i => q i || between (m : Int) (runEnd (bitAt l) m : Nat) i) else ([0, 0, 0, 0], 22)) = _
        rw [decide_eq_true hz, cond_true, parse_pieces n (cutRun l m) _ (by omega) fun i hi hb => ?_]
        · congr 1
          refine setOf_ext fun i hi => ?_
          rw [cutRun_bit _ _ hi]
          cases hb : between (m : Int) (runEnd (bitAt l) m : Nat) i with
          | false => rw [show inRange (m : Int) (runEnd (bitAt l) m : Nat) i = false from hb, Bool.or_false, Bool.not_false, Bool.and_true]
          | true => rw [hin i hi hb, Bool.or_true, Bool.true_or]
        · rw [cutRun_bit _ _ hi, Bool.and_eq_true, Bool.not_eq_true'] at hb
          rw [hq i hi hb.1, show between (m : Int) (runEnd (bitAt l) m : Nat) i = false from hb.2]; rfl
theorem dash_one : parseS dash = ([0, 0, 0, 0], 0) := by decide +kernel
theorem parse_text {a : List Int} (ha : okSet a) : parseS (textB a) = (a, 0) := by
  have hall := parse_pieces (cnt (bitAt a) 256) a (fun _ => false) (Nat.le_refl _) fun _ _ _ => rfl
  have hset : setOf (fun i => false || bitAt a i) = a := by
    rw [show (fun i => false || bitAt a i) = bitAt a from funext fun i => Bool.false_or _, setOf_bitAt ha]
  rw [hset] at hall
  cases hp : pieces a with
  | nil =>
    have e : textB a = dash := by unfold textB; rw [hp]; rfl
    rw [hp, parseL] at hall
    rw [e, dash_one, ← (Prod.mk.inj hall).1, setOf_zero]
  | cons w ws =>
    have e : textB a = joinB (w :: ws) ⟨#[44]⟩ := by unfold textB; rw [hp]; rfl
    have hsp := spB_join (c := 44) (w := w) (ws := ws) fun x hx => pieces_comma _ a (Nat.le_refl _) x (by rw [hp]; exact hx)
    rw [hp] at hall
    have hw0 : (partS w).2.2 = 0 := by
      apply Classical.byContradiction
      intro hne
      rw [parseL_stop (by simpa using hne)] at hall
      exact hne (Prod.mk.inj hall).2
    have n1 : ¬ textB a = ⟨#[]⟩ := by
      intro h0
      rw [e] at h0
      rw [h0] at hsp
      have hw : w = ⟨#[]⟩ := (List.cons.inj hsp).1.symm
      rw [hw] at hw0
      exact absurd hw0 (by decide +kernel)
    have n2 : ¬ textB a = dash := by
      intro h0
      rw [e] at h0
      rw [h0] at hsp
      have hw : w = dash := (List.cons.inj (hsp.symm.trans (show spB 44 dash = [dash] by decide +kernel))).1
      rw [hw] at hw0
      exact absurd hw0 (by decide +kernel)
    unfold parseS
    rw [show decide (textB a = ⟨#[]⟩) = false from decide_eq_false n1, show decide (textB a = dash) = false from decide_eq_false n2, cond_false, cond_false, show comma = (⟨#[44]⟩ : ByteArray) from rfl, split_spB, e, hsp, hall]
end Go.Proofs.YtdikfhjpnfffnabDoor
