/- VECTORS: sums of many, and texts. -/
import Derived.Test.YtdikfhjpnfffnacDoorVcH
set_option maxRecDepth 2000
set_option linter.unusedVariables false
set_option linter.unusedSimpArgs false
set_option linter.unusedVariables false
set_option linter.unusedSimpArgs false
namespace Go.Proofs.YtdikfhjpnfffnacDoor
open Go Go.Abs Go.Proofs
abbrev V3 := Int × Int × Int
def e1 (v : shV.val) : Int := v.1
def e2 (v : shV.val) : Int := v.2.1
def e3 (v : shV.val) : Int := v.2.2.1
def sumL : List shV.val → V3 → Option V3
  | [], x => some x
  | v :: l, x => if okAdd x.1 x.2.1 x.2.2 (e1 v) (e2 v) (e3 v) = true then sumL l (x.1 + e1 v, x.2.1 + e2 v, x.2.2 + e3 v) else none
def sumP (o : Option V3) : PV := .tuple (.cons (.agg (.cons (.int .i64 fun _ => (o.getD (0, 0, 0)).1) (.cons (.int .i64 fun _ => (o.getD (0, 0, 0)).2.1) (.cons (.int .i64 fun _ => (o.getD (0, 0, 0)).2.2) .nil)))) (.cons (.bool fun _ => o.isSome) .nil))
def smA (l : List shV.val) (i : Nat) : Env := [(11, .int .i64 fun _ => (i : Int)), (10, .int .i64 fun _ => (l.length : Int)), (9, .slice none 3 (fun _ => (l.length : Int)) fun j => shV.mk fun _ => l.getD (j ()).toNat shV.dflt), (4, .ptr 1 0), (2, .ptr 0 0)]
def smS (x : V3) : Store := [(0, .var zV), (1, .var (vP x.1 x.2.1 x.2.2))]
theorem sum_okv (l : List shV.val) (hl : l.length < 9223372036854775807) : PF 20 (.cons (Sh.mkL 3 shV fun _ => l) .nil) (sumP (sumL l (0, 0, 0))) := by
  refine (⟨Tryd.func20, rfl, rfl, rfl, ⟨rfl, rfl⟩, ok _⟩ : FN 20 Tryd.f20).tree (mkO_ok Fh5_ok) false 40 rfl ?_
  conv => arg 5; cbv
  refine run_inv (ι := Nat × V3) (fun x => l.length - x.1) (fun x => x.1 ≤ l.length ∧ sumL (l.drop x.1) x.2 = sumL l (0, 0, 0)) (fun x => smA l x.1) (fun x => smS x.2) 2 (0, (0, 0, 0)) (fun i => i) (by rfl) (by rfl) ⟨Nat.zero_le _, rfl⟩ ?_ ⟨impP_refl _, impP_refl _, impP_refl _, impP_refl _, impP_refl _, trivial⟩ ⟨impP_refl _, impP_refl _, trivial⟩
  intro y hy ih
  obtain ⟨i, x⟩ := y
  have hi : i ≤ l.length := hy.1
  have he : sumL (l.drop i) x = sumL l (0, 0, 0) := hy.2
  have tn : ∀ n : Nat, ((n : Nat) : Int).toNat = n := fun n => Int.toNat_natCast n
  refine explore_ok (ok _) (mkO_ok Fh5_ok) (u := false) 20 _ rfl ?_
  conv => arg 5; cbv
  simp only [tn]
  refine ⟨fun g => ?_, fun g => ⟨rfl, ?_⟩⟩
  · (replace g := of_decide_eq_true g); (try dsimp only at g); (try simp only [cast_fold, Int.ofNat_eq_natCast] at g)
    have hlt : i < l.length := by omega
    have hw : IntKind.i64.wrap ((i : Int) + 1) = ((i + 1 : Nat) : Int) := by rw [IntWalk.i64_in _ ⟨by omega, by omega⟩]; omega
    rw [List.drop_eq_getElem_cons hlt] at he
    have hg : l.getD i shV.dflt = l[i] := by rw [List.getD_eq_getElem?_getD, List.getElem?_eq_getElem hlt]; rfl
    rw [hg]
    have he : (if okAdd x.1 x.2.1 x.2.2 (e1 l[i]) (e2 l[i]) (e3 l[i]) = true then sumL (l.drop (i + 1)) (x.1 + e1 l[i], x.2.1 + e2 l[i], x.2.2 + e3 l[i]) else none) = sumL l (0, 0, 0) := he
    refine ⟨⟨⟨(by (try dsimp only); (try simp only [cast_fold, Int.ofNat_eq_natCast]); omega), g⟩, trivial⟩, fun g2 => ⟨rfl, ?_⟩, fun g2 => ?_⟩
    · have g2 : ¬ okAdd x.1 x.2.1 x.2.2 (e1 l[i]) (e2 l[i]) (e3 l[i]) = true := by
        have g2 : (!okAdd x.1 x.2.1 x.2.2 (e1 l[i]) (e2 l[i]) (e3 l[i])) = true := g2
        simpa using g2
      rw [if_neg g2] at he
      rw [← he]
      exact ⟨⟨⟨rfl, rfl⟩, ⟨rfl, rfl⟩, ⟨rfl, rfl⟩, rfl⟩, rfl, rfl⟩
    · have g2 : okAdd x.1 x.2.1 x.2.2 (e1 l[i]) (e2 l[i]) (e3 l[i]) = true := by
        have g2 : (!okAdd x.1 x.2.1 x.2.2 (e1 l[i]) (e2 l[i]) (e3 l[i])) = false := g2
        simpa using g2
      rw [if_pos g2] at he
      exact ih (i + 1, (x.1 + e1 l[i], x.2.1 + e2 l[i], x.2.2 + e3 l[i])) (fun i => i) ⟨by show i + 1 ≤ l.length; omega, he⟩ (by show l.length - (i + 1) < l.length - i; omega) (by rfl) ⟨⟨rfl, hw⟩, impP_refl _, impP_refl _, impP_refl _, impP_refl _, trivial⟩ ⟨impP_refl _, ⟨⟨rfl, if_pos g2⟩, ⟨rfl, if_pos g2⟩, ⟨rfl, if_pos g2⟩, rfl⟩, trivial⟩
  · (replace g := of_decide_eq_false g); (try dsimp only at g); (try simp only [cast_fold, Int.ofNat_eq_natCast] at g)
    have e : i = l.length := by omega
    rw [e, List.drop_length] at he
    rw [← he]
    exact ⟨⟨⟨rfl, rfl⟩, ⟨rfl, rfl⟩, ⟨rfl, rfl⟩, rfl⟩, rfl, rfl⟩
theorem told_ok (r n : Int) (hr : 0 ≤ r ∧ r < 3) (hn : 0 ≤ n ∧ n ≤ 1125899906842624) : PF 32 (.cons (i64 r) (.cons (i64 n) .nil)) (.str fun _ => if r = 0 then toB (atext (n.toNat * 1000000)) else toB (btext (n.toNat * 1000000000))) := by
  refine (⟨Tryd.func32, rfl, rfl, rfl, ⟨rfl, rfl⟩, ok _⟩ : FN 32 Tryd.f32).tree (mkO_ok Fh5_ok) false 40 rfl ?_
  conv => arg 5; cbv
  have hn2 : n.toNat ≤ 1125899906842624 := by omega
  have h1 : n.toNat * 1000000 ≤ mostA := Nat.le_trans (Nat.mul_le_mul_right _ hn2) (by decide)
  have h2 : n.toNat * 1000000000 ≤ mostA := Nat.le_trans (Nat.mul_le_mul_right _ hn2) (by decide)
  have hW : mostA < W128 := by decide
  have c : 0 ≤ n ∧ n ≤ 1152921504606846976 := by omega
  simp only [wN_of]
  refine ⟨fun g => ⟨⟨c, okW_of (Nat.lt_of_le_of_lt h1 hW), trivial⟩, rfl, ?_⟩, fun g => ⟨⟨c, okW_of (Nat.lt_of_le_of_lt h2 hW), trivial⟩, rfl, ?_⟩⟩
  · have g := beqT g
    show atB2 _ = _
    rw [if_pos g]; exact if_pos h1
  · have g := beqF g
    show btB _ = _
    rw [if_neg g]; exact if_pos h2
theorem toB_eq {l : List UInt8} {s : ByteArray} : toB l = s ↔ s.data.toList = l := by
  constructor
  · rintro rfl; rfl
  · intro h; rw [← h, toB_data]
theorem named_ok (s : ByteArray) : PF 29 (.cons (.str fun _ => s) .nil) (.tuple (.cons (.int .i64 fun _ => if vIdx s.data.toList < 3 then (vIdx s.data.toList : Int) else 0) (.cons (.bool fun _ => decide (vIdx s.data.toList < 3)) .nil))) := by
  refine (⟨Tryd.func29, rfl, rfl, rfl, ⟨rfl, rfl⟩, ok _⟩ : FN 29 Tryd.f29).treeS (mkO_ok Fh5_ok) true 40 (.yes (.both .any (.yes (.both .any (.yes (.both .any (.no .any))))))) rfl ?_
  conv => arg 5; cbv
  have hv : ∀ k : Nat, k < 3 → vIdx s.data.toList = k → ∀ z : Int, z = k → impP (.tuple (.cons (.int .i64 fun _ => z) (.cons .tt .nil))) (.tuple (.cons (.int .i64 fun _ => if vIdx s.data.toList < 3 then (vIdx s.data.toList : Int) else 0) (.cons (.bool fun _ => decide (vIdx s.data.toList < 3)) .nil))) := fun k hk h z hz => by
    rw [h, hz, if_pos hk]
    exact ⟨⟨rfl, rfl⟩, decide_eq_true hk, rfl⟩
  refine ⟨⟨by decide, trivial⟩, ⟨by decide, trivial⟩, fun g => ⟨rfl, hv 0 (by omega) ?_ _ rfl⟩, fun g => ⟨⟨by decide, trivial⟩, ⟨by decide, trivial⟩, fun g2 => ⟨rfl, hv 1 (by omega) ?_ _ (by decide)⟩, fun g2 => ⟨⟨by decide, trivial⟩, ⟨by decide, trivial⟩, fun g3 => ⟨rfl, hv 2 (by omega) ?_ _ (by decide)⟩, fun g3 => ⟨⟨by decide, trivial⟩, rfl, ?_⟩⟩⟩⟩
  · have g : toB sCpu = s := of_decide_eq_true g
    exact if_pos (toB_eq.1 g)
  all_goals
    have g : ¬ toB sCpu = s := of_decide_eq_false g
    have n1 : ¬ s.data.toList = sCpu := fun h => g (toB_eq.2 h)
  · have g2 : toB sMem = s := of_decide_eq_true g2
    unfold vIdx; rw [if_neg n1, if_pos (toB_eq.1 g2)]
  all_goals
    have g2 : ¬ toB sMem = s := of_decide_eq_false g2
    have n2 : ¬ s.data.toList = sMem := fun h => g2 (toB_eq.2 h)
  · have g3 : toB sHug = s := of_decide_eq_true g3
    unfold vIdx; rw [if_neg n1, if_neg n2, if_pos (toB_eq.1 g3)]
  · have g3 : ¬ toB sHug = s := of_decide_eq_false g3
    have n3 : ¬ s.data.toList = sHug := fun h => g3 (toB_eq.2 h)
    have h3 : vIdx s.data.toList = 3 := by unfold vIdx; rw [if_neg n1, if_neg n2, if_neg n3]
    rw [h3]
    exact ⟨⟨rfl, rfl⟩, rfl, rfl⟩
theorem read_okv (r h l : Int) (hr : 0 ≤ r ∧ r < 3) (hk : okW h l) : PF 39 (.cons (i64 r) (.cons (wP h l) .nil)) (.tuple (.cons (.int .i64 fun _ => ((vRead r.toNat (wN h l)).1 : Nat)) (.cons (.int .i64 fun _ => (vRead r.toNat (wN h l)).2) .nil))) := by
  refine (⟨Tryd.func39, rfl, rfl, rfl, ⟨rfl, rfl⟩, ok _⟩ : FN 39 Tryd.f39).tree (mkO_ok Fh5_ok) false 40 rfl ?_
  conv => arg 5; cbv
  have hkey : ∀ e : Nat, e = vEach r.toNat → TreeOK Tryd.prog (ctx Tryd.f39) Tryd.f39 (Ret (.tuple (.cons (.int .i64 fun _ => ((vRead r.toNat (wN h l)).1 : Nat)) (.cons (.int .i64 fun _ => (vRead r.toNat (wN h l)).2) .nil))))
      (.br (fun _ => (pgN (wN h l) e).2 != 0) (.leaf (.tuple (.cons (.int .i64 fun _ => 0) (.cons (.int .i64 fun _ => (pgN (wN h l) e).2) .nil))) [])
        (.br (fun _ => !decide (0 ≤ ((pgN (wN h l) e).1 : Int) ∧ ((pgN (wN h l) e).1 : Int) ≤ if r = 0 then 1099511627776 else 1125899906842624)) (.leaf (.tuple (.cons (.int .i64 fun _ => 0) (.cons (.int .i64 fun _ => 15) .nil))) [])
          (.br (fun _ => r == 2) (.br (fun _ => bitAnd .i64 ((pgN (wN h l) e).1 : Int) 2097151 != 0) (.leaf (.tuple (.cons (.int .i64 fun _ => 0) (.cons (.int .i64 fun _ => 11) .nil))) []) (.leaf (.tuple (.cons (.int .i64 fun _ => ((pgN (wN h l) e).1 : Int)) (.cons (.int .i64 fun _ => 0) .nil))) []))
            (.leaf (.tuple (.cons (.int .i64 fun _ => ((pgN (wN h l) e).1 : Int)) (.cons (.int .i64 fun _ => 0) .nil))) [])))) := by
    rintro e rfl
    have hm : (if r = 0 then (1099511627776 : Int) else 1125899906842624) = (vMost r.toNat : Int) := by
      have : r = 0 ∨ r = 1 ∨ r = 2 := by omega
      rcases this with rfl | rfl | rfl <;> rfl
    have h2 : (r == 2) = decide (r.toNat = 2) := by rw [Bool.eq_iff_iff]; simp; omega
    rw [hm, h2]
    unfold vRead
    generalize pgN (wN h l) (vEach r.toNat) = p
    obtain ⟨n, e⟩ := p
    have hmm : vMost r.toNat ≤ 1125899906842624 := by unfold vMost; split <;> omega
    refine ⟨fun g => ⟨rfl, ?_⟩, fun g => ⟨fun g2 => ⟨rfl, ?_⟩, fun g2 => ⟨fun g3 => ⟨fun g4 => ⟨rfl, ?_⟩, fun g4 => ⟨rfl, ?_⟩⟩, fun g3 => ⟨rfl, ?_⟩⟩⟩⟩
    · have g : e ≠ 0 := bneT g
      simp only [if_pos g]
      exact ⟨⟨rfl, rfl⟩, ⟨rfl, rfl⟩, rfl⟩
    all_goals
      have g : ¬ e ≠ 0 := fun hc => hc (bneF g)
      simp only [if_neg g]
    · have g2 : ¬ (0 ≤ (n : Int) ∧ (n : Int) ≤ (vMost r.toNat : Int)) := by simpa using g2
      rw [if_pos (by omega)]
      exact ⟨⟨rfl, rfl⟩, ⟨rfl, rfl⟩, rfl⟩
    all_goals
      have g2 : (0 ≤ (n : Int) ∧ (n : Int) ≤ (vMost r.toNat : Int)) := by simpa using g2
      rw [if_neg (show ¬ vMost r.toNat < n by omega)]
    · have g3 := of_decide_eq_true g3
      have g4 := bneT g4
      dsimp only at g4
      rw [and_huge (by omega)] at g4
      rw [if_pos ⟨g3, by omega⟩]
      exact ⟨⟨rfl, rfl⟩, ⟨rfl, rfl⟩, rfl⟩
    · have g3 := of_decide_eq_true g3
      have g4 := bneF g4
      dsimp only at g4
      rw [and_huge (by omega)] at g4
      rw [if_neg (fun hc => hc.2 (by omega))]
      exact ⟨⟨rfl, rfl⟩, ⟨rfl, rfl⟩, rfl⟩
    · have g3 := of_decide_eq_false g3
      rw [if_neg (fun hc => g3 hc.1)]
      exact ⟨⟨rfl, rfl⟩, ⟨rfl, rfl⟩, rfl⟩
  refine ⟨⟨hk, trivial⟩, fun g => ⟨⟨hk, trivial⟩, ?_⟩, fun g => ?_⟩
  · have g := beqT g
    exact hkey 1000000 (by rw [g]; rfl)
  · have g := beqF g
    exact hkey 1000000000 (by unfold vEach; rw [if_neg (by omega)])
noncomputable def Fh6 : Table := addS 20 (.cons (.slice 3 shV) .nil) (fun l => (.tuple (.cons (.agg (.cons (.int .i64 fun _ => ((sumL (l ()) (0, 0, 0)).getD (0, 0, 0)).1) (.cons (.int .i64 fun _ => ((sumL (l ()) (0, 0, 0)).getD (0, 0, 0)).2.1) (.cons (.int .i64 fun _ => ((sumL (l ()) (0, 0, 0)).getD (0, 0, 0)).2.2) .nil)))) (.cons (.bool fun _ => (sumL (l ()) (0, 0, 0)).isSome) .nil)), [fun _ => List.length (α := shV.val) (l ()) < 9223372036854775807]))
  (addS 32 (.cons (.int .i64) (.cons (.int .i64) .nil)) (fun r n => (.str fun _ => if r () = 0 then toB (atext ((n ()).toNat * 1000000)) else toB (btext ((n ()).toNat * 1000000000)), [fun _ => (0 ≤ r () ∧ r () < 3) ∧ 0 ≤ n () ∧ n () ≤ 1125899906842624]))
  (addS 29 (.cons .str .nil) (fun s => (.tuple (.cons (.int .i64 fun _ => if vIdx (s ()).data.toList < 3 then (vIdx (s ()).data.toList : Int) else 0) (.cons (.bool fun _ => decide (vIdx (s ()).data.toList < 3)) .nil)), []))
  (addS 39 (.cons (.int .i64) (.cons shWide .nil)) (fun r h l => (.tuple (.cons (.int .i64 fun _ => ((vRead (r ()).toNat (wN (h ()) (l ()))).1 : Nat)) (.cons (.int .i64 fun _ => (vRead (r ()).toNat (wN (h ()) (l ()))).2) .nil)), [fun _ => (0 ≤ r () ∧ r () < 3) ∧ okW (h ()) (l ())])) Fh5)))
theorem Fh6_ok : TableOK Tryd.prog G0 Fh6 := addS_ok (⟨Tryd.func20, rfl, rfl, rfl, ⟨rfl, rfl⟩, ok _⟩ : FN 20 Tryd.f20).callable (fun l h => sum_okv (l ()) h.1) (addS_ok (⟨Tryd.func32, rfl, rfl, rfl, ⟨rfl, rfl⟩, ok _⟩ : FN 32 Tryd.f32).callable (fun r n h => told_ok (r ()) (n ()) h.1.1 h.1.2) (addS_ok (⟨Tryd.func29, rfl, rfl, rfl, ⟨rfl, rfl⟩, ok _⟩ : FN 29 Tryd.f29).callable (fun s _ => named_ok (s ())) (addS_ok (⟨Tryd.func39, rfl, rfl, rfl, ⟨rfl, rfl⟩, ok _⟩ : FN 39 Tryd.f39).callable (fun r h l c => read_okv (r ()) (h ()) (l ()) c.1.1 c.1.2) Fh5_ok)))
noncomputable def Fl : Table := addS 28 (.cons .str (.cons .str .nil)) (fun s p => (.tuple (.cons (.str fun _ => (cutB (s ()) (p ())).1) (.cons (.str fun _ => (cutB (s ()) (p ())).2.1) (.cons (.bool fun _ => (cutB (s ()) (p ())).2.2) .nil))), [fun _ => (s ()).size < 4294967281]))
  (addS 27 (.cons .str (.cons .str .nil)) (fun s p => (.slice none 1 (fun _ => ((Lib.splitB (p ()) 0 (Lib.countB (s ()) (p ())) (s ())).length : Int)) fun j => .str fun _ => (Lib.splitB (p ()) 0 (Lib.countB (s ()) (p ())) (s ())).getD (j ()).toNat ByteArray.empty, [fun _ => (s ()).size < 4294967281 ∧ 1 ≤ (p ()).size]))
  (addS 33 (.cons (.slice 1 .str) (.cons .str .nil)) (fun l s => (.str fun _ => joinB (l ()) (s ()), [fun _ => List.length (α := ByteArray) (l ()) ≤ 140737488355328 ∧ (joinB (l ()) (s ())).size ≤ 140737488355328])) Fh6))
theorem Fl_ok : TableOK Tryd.prog G0 Fl := addS_ok (⟨Tryd.func28, rfl, rfl, rfl, ⟨rfl, rfl⟩, ok _⟩ : FN 28 Tryd.f28).callable (fun s p h => cut_ok (s ()) (p ()) h.1) (addS_ok (⟨Tryd.func27, rfl, rfl, rfl, ⟨rfl, rfl⟩, ok _⟩ : FN 27 Tryd.f27).callable (fun s p h => split_ok (s ()) (p ()) h.1.1 h.1.2) (addS_ok (⟨Tryd.func33, rfl, rfl, rfl, ⟨rfl, rfl⟩, ok _⟩ : FN 33 Tryd.f33).callable (fun l s h => join_ok (l ()) (s ()) h.1.1 h.1.2) Fh6_ok))
theorem cut_len (x : ByteArray) : (toB (Lib.cut x.data.toList [61]).2.1).size ≤ x.size := by
  rw [← size_toB (toB _), ← size_toB x]
  show (Lib.cut x.data.toList [61]).2.1.length ≤ _
  unfold Lib.cut
  split
  · rw [List.length_drop]; omega
  · exact Nat.zero_le _
theorem part_okv (x : ByteArray) (hx : x.size < 2147483648) : PF 30 (.cons (.str fun _ => x) .nil) (.tuple (.cons (.int .i64 fun _ => ((vPart x.data.toList).1 : Nat)) (.cons (.int .i64 fun _ => ((vPart x.data.toList).2.1 : Nat)) (.cons (.int .i64 fun _ => (vPart x.data.toList).2.2) .nil)))) := by
  refine (⟨Tryd.func30, rfl, rfl, rfl, ⟨rfl, rfl⟩, ok _⟩ : FN 30 Tryd.f30).tree (mkO_ok Fl_ok) false 40 rfl ?_
  conv => arg 5; cbv
  have hlen := cut_len x
  have hle := vIdx_le (Lib.cut x.data.toList [61]).1
  have hcut : cutB x (⟨#[61]⟩ : ByteArray) = (toB (Lib.cut x.data.toList [61]).1, toB (Lib.cut x.data.toList [61]).2.1, (Lib.cut x.data.toList [61]).2.2) := rfl
  have hd : ∀ l : List UInt8, (toB l).data.toList = l := fun _ => rfl
  have hvp : vPart x.data.toList = if (Lib.cut x.data.toList [61]).2.2 = false ∨ vIdx (Lib.cut x.data.toList [61]).1 = 3 then (0, 0, 11) else
    if (aparse (Lib.cut x.data.toList [61]).2.1).2 ≠ 0 ∨ (aparse (Lib.cut x.data.toList [61]).2.1).1 = 0 then (vIdx (Lib.cut x.data.toList [61]).1, 0, (aparse (Lib.cut x.data.toList [61]).2.1).2) else
    (vIdx (Lib.cut x.data.toList [61]).1, vRead (vIdx (Lib.cut x.data.toList [61]).1) (aparse (Lib.cut x.data.toList [61]).2.1).1) := rfl
  have hA := aparse_lt (Lib.cut x.data.toList [61]).2.1
  simp only [hcut, hd, wN_of]
  rw [hvp]
  generalize (Lib.cut x.data.toList [61]).2.2 = ok at *
  generalize vIdx (Lib.cut x.data.toList [61]).1 = r at *
  generalize aparse (Lib.cut x.data.toList [61]).2.1 = A at *
  generalize (Lib.cut x.data.toList [61]).2.1 = u at *
  generalize (Lib.cut x.data.toList [61]).1 = u1 at *
  obtain ⟨v, e⟩ := A
  have hvW : v < W128 := Nat.lt_of_le_of_lt hA (by decide)
  have hbad : ok = false ∨ r = 3 → impP (.tuple (.cons (.int .i64 fun _ => 0) (.cons (.int .i64 fun _ => 0) (.cons (.int .i64 fun _ => 11) .nil)))) (.tuple (.cons (.int .i64 fun _ => (((if ok = false ∨ r = 3 then (0, 0, 11) else if e ≠ 0 ∨ v = 0 then (r, 0, e) else (r, vRead r v)) : Nat × Nat × Int).1 : Int)) (.cons (.int .i64 fun _ => (((if ok = false ∨ r = 3 then (0, 0, 11) else if e ≠ 0 ∨ v = 0 then (r, 0, e) else (r, vRead r v)) : Nat × Nat × Int).2.1 : Int)) (.cons (.int .i64 fun _ => ((if ok = false ∨ r = 3 then (0, 0, 11) else if e ≠ 0 ∨ v = 0 then (r, 0, e) else (r, vRead r v)) : Nat × Nat × Int).2.2) .nil)))) := fun h => by
    rw [if_pos h]; exact ⟨⟨rfl, rfl⟩, ⟨rfl, rfl⟩, ⟨rfl, rfl⟩, rfl⟩
  refine ⟨⟨by omega, trivial⟩, fun g => ⟨rfl, hbad ?_⟩, fun g => ⟨fun g2 => ⟨rfl, hbad ?_⟩, fun g2 => ?_⟩⟩
  · have g : (!ok) = true := g
    exact .inl (by simpa using g)
  · have g2 : (!decide (r < 3)) = true := g2
    exact .inr (by have : ¬ r < 3 := by simpa using g2
                   omega)
  have g : ok = true := by
    have g : (!ok) = false := g
    simpa using g
  have g2 : r < 3 := by
    have g2 : (!decide (r < 3)) = false := g2
    simpa using g2
  have hr : (if r < 3 then (r : Int) else 0) = (r : Int) := if_pos g2
  rw [if_neg (show ¬ (ok = false ∨ r = 3) from fun h => by rcases h with h | h; (rw [g] at h; cases h); omega)]
  simp only [hr]
  refine ⟨⟨by omega, trivial⟩, fun g3 => ⟨rfl, ?_⟩, fun g3 => ⟨⟨⟨okW_of hvW, okW_small (by decide)⟩, trivial⟩, fun g4 => ⟨rfl, ?_⟩, fun g4 => ⟨⟨⟨by omega, okW_of hvW⟩, trivial⟩, rfl, ?_⟩⟩⟩
  · have g3 := bneT g3
    rw [if_pos (.inl g3)]
    exact ⟨⟨rfl, rfl⟩, ⟨rfl, rfl⟩, ⟨rfl, rfl⟩, rfl⟩
  · have g4 := beqT g4
    have hz : v = 0 := by
      have h0 : wN 0 0 = 0 := rfl
      rw [h0] at g4
      split at g4
      · cases g4
      · split at g4
        · cases g4
        · omega
    rw [if_pos (.inr hz)]
    exact ⟨⟨rfl, rfl⟩, ⟨rfl, rfl⟩, ⟨rfl, rfl⟩, rfl⟩
  · have g3 : e = 0 := bneF g3
    have g4 := beqF g4
    have hz : v ≠ 0 := fun hz => g4 (by rw [hz]; rfl)
    rw [if_neg (fun h => by rcases h with h | h; exact h g3; exact hz h)]
    have tn : ((r : Nat) : Int).toNat = r := Int.toNat_natCast r
    refine ⟨⟨rfl, rfl⟩, ⟨rfl, ?_⟩, ⟨rfl, ?_⟩, rfl⟩ <;> (dsimp only; rw [tn])
noncomputable def Fl2 : Table := addS 30 (.cons .str .nil) (fun x => (.tuple (.cons (.int .i64 fun _ => ((vPart (x ()).data.toList).1 : Nat)) (.cons (.int .i64 fun _ => ((vPart (x ()).data.toList).2.1 : Nat)) (.cons (.int .i64 fun _ => (vPart (x ()).data.toList).2.2) .nil))), [fun _ => (x ()).size < 2147483648])) Fl
theorem Fl2_ok : TableOK Tryd.prog G0 Fl2 := addS_ok (⟨Tryd.func30, rfl, rfl, rfl, ⟨rfl, rfl⟩, ok _⟩ : FN 30 Tryd.f30).callable (fun x h => part_okv (x ()) h.1) Fl_ok
end Go.Proofs.YtdikfhjpnfffnacDoor
