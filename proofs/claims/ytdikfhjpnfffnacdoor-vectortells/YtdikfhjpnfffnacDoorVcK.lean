/- VECTORS: from a text. -/
import Derived.Test.YtdikfhjpnfffnacDoorVcJ
set_option maxRecDepth 2000
set_option linter.unusedVariables false
set_option linter.unusedSimpArgs false
set_option linter.unusedVariables false
set_option linter.unusedSimpArgs false
namespace Go.Proofs.YtdikfhjpnfffnacDoor
open Go Go.Abs Go.Proofs
theorem vtext_no (c m h : Int) (hr : vRight c m h = false) : PF 12 (.cons (vP c m h) .nil) (.str fun _ => (⟨#[]⟩ : ByteArray)) := by
  refine (⟨Tryd.func12, rfl, rfl, rfl, ⟨rfl, rfl⟩, ok _⟩ : FN 12 Tryd.f12).treeS (mkO_ok Fl2_ok) false 40 (.yes .any) rfl ?_
  conv => arg 5; cbv
  exact ⟨⟨by rw [hr]; rfl, trivial⟩, rfl, rfl⟩
noncomputable def Fm : Table := addS 12 (.cons shV .nil) (fun c m h => (.str fun _ => if vRight (c ()) (m ()) (h ()) = true then toB (vText (c ()).toNat (m ()).toNat (h ()).toNat) else ⟨#[]⟩, [])) Fl2
theorem Fm_ok : TableOK Tryd.prog G0 Fm := addS_ok (⟨Tryd.func12, rfl, rfl, rfl, ⟨rfl, rfl⟩, ok _⟩ : FN 12 Tryd.f12).callable (fun c m h _ => by
  cases hr : vRight (c ()) (m ()) (h ()) with
  | true => simp only [hr, if_true]; exact vtext_ok _ _ _ hr
  | false => simp only [hr, Bool.false_eq_true, if_false]; exact vtext_no _ _ _ hr) Fl2_ok
def vqA (l : List ByteArray) (i : Int) : Env := [(26, .int .i64 fun _ => i), (25, .int .i64 fun _ => (l.length : Int)), (24, Sh.mkL 1 .str fun _ => l), (5, .ptr 2 0), (4, .ptr 1 0), (3, .int .i64 fun _ => 0), (2, .ptr 0 0)]
def vqS (s : List Bool) (c m h : Int) : Store := [(2, .var (.arrB 3 fun _ => s)), (1, .var (vP c m h)), (0, .var zV)]
def bs (l : List ByteArray) : List (List UInt8) := l.map fun x => x.data.toList
structure VqI (l : List ByteArray) (q : List Int × Int) (x : Int × List Bool × Int × Int × Int) : Prop where
  lo : 0 ≤ x.1
  hi : x.1 ≤ l.length
  sl : x.2.1.length = 3
  e : vGo (bs (l.drop x.1.toNat)) x.2.1 [x.2.2.1, x.2.2.2.1, x.2.2.2.2] = q
theorem vq_set {c m h n : Int} {r : Nat} (hr : r < 3) : [c, m, h].set r n = [if (r : Int) = 0 then n else c, if (r : Int) = 1 then n else m, if (r : Int) = 2 then n else h] := by
  have : r = 0 ∨ r = 1 ∨ r = 2 := by omega
  rcases this with rfl | rfl | rfl <;> rfl
theorem vGo_seen {x : List UInt8} {r : List (List UInt8)} {sn : List Bool} {p : List Int} (h1 : vIdx (Lib.cut x [61]).1 < 3) (h2 : sn.getD (vIdx (Lib.cut x [61]).1) false = true) : vGo (x :: r) sn p = ([0, 0, 0], 11) := by
  rw [vGo, if_pos ⟨h1, h2⟩]
theorem vGo_err {x : List UInt8} {r : List (List UInt8)} {sn : List Bool} {p : List Int} (h : ¬ (vIdx (Lib.cut x [61]).1 < 3 ∧ sn.getD (vIdx (Lib.cut x [61]).1) false = true)) (h2 : (vPart x).2.2 ≠ 0) : vGo (x :: r) sn p = ([0, 0, 0], (vPart x).2.2) := by
  rw [vGo, if_neg h, if_pos h2]
theorem vGo_on {x : List UInt8} {r : List (List UInt8)} {sn : List Bool} {p : List Int} (h : ¬ (vIdx (Lib.cut x [61]).1 < 3 ∧ sn.getD (vIdx (Lib.cut x [61]).1) false = true)) (h2 : (vPart x).2.2 = 0) : vGo (x :: r) sn p = vGo r (sn.set (vPart x).1 true) (p.set (vPart x).1 ((vPart x).2.1 : Nat)) := by
  rw [vGo, if_neg h, if_neg (fun hc => hc h2)]
theorem bs_drop {l : List ByteArray} {i : Int} (h0 : 0 ≤ i) (h1 : i < l.length) : l.getD i.toNat ByteArray.empty ∈ l ∧ bs (l.drop i.toNat) = (l.getD i.toNat ByteArray.empty).data.toList :: bs (l.drop (i + 1).toNat) := by
  have hlt : i.toNat < l.length := by omega
  have hd : l.drop i.toNat = l.getD i.toNat ByteArray.empty :: l.drop (i + 1).toNat := by
    rw [show (i + 1).toNat = i.toNat + 1 by omega, ← List.getElem_cons_drop hlt, List.getD_eq_getElem?_getD, List.getElem?_eq_getElem hlt]; rfl
  refine ⟨?_, by rw [hd]; rfl⟩
  rw [List.getD_eq_getElem?_getD, List.getElem?_eq_getElem hlt]
  exact List.getElem_mem hlt
theorem vq_end {q : List Int × Int} {c m h : Int} (hq : ([c, m, h], (0 : Int)) = q) : impP (.tuple (.cons (vP c m h) (.cons (.int .i64 fun _ => 0) .nil))) (.tuple (.cons (.agg (.cons (.int .i64 fun _ => q.1.getD 0 0) (.cons (.int .i64 fun _ => q.1.getD 1 0) (.cons (.int .i64 fun _ => q.1.getD 2 0) .nil)))) (.cons (.int .i64 fun _ => q.2) .nil))) := by
  subst hq
  exact ⟨⟨⟨rfl, rfl⟩, ⟨rfl, rfl⟩, ⟨rfl, rfl⟩, rfl⟩, ⟨rfl, rfl⟩, rfl⟩
theorem vq_err {q : List Int × Int} {e : Int} (h : ([0, 0, 0], e) = q) : impP (.tuple (.cons zV (.cons (.int .i64 fun _ => e) .nil))) (.tuple (.cons (.agg (.cons (.int .i64 fun _ => q.1.getD 0 0) (.cons (.int .i64 fun _ => q.1.getD 1 0) (.cons (.int .i64 fun _ => q.1.getD 2 0) .nil)))) (.cons (.int .i64 fun _ => q.2) .nil))) := by
  subst h
  exact ⟨⟨⟨rfl, rfl⟩, ⟨rfl, rfl⟩, ⟨rfl, rfl⟩, rfl⟩, ⟨rfl, rfl⟩, rfl⟩
theorem bytes_nil {s : ByteArray} : s.data.toList = [] ↔ s = ⟨#[]⟩ := ⟨fun h => by cases s; simp_all, fun h => by rw [h]⟩
theorem bytes_one {s : ByteArray} {c : UInt8} : s.data.toList = [c] ↔ s = ⟨#[c]⟩ := ⟨fun h => by rw [← toB_data s, h]; rfl, fun h => by rw [h]⟩
theorem vParse_at (s : ByteArray) : vParse s.data.toList = if s = ⟨#[]⟩ then ([0, 0, 0], 10) else if s = ⟨#[45]⟩ then ([0, 0, 0], 0) else vGo (bs (Lib.splitB ⟨#[44]⟩ 0 (Lib.countB s ⟨#[44]⟩) s)) [false, false, false] [0, 0, 0] := by
  have hb : bs (Lib.splitB ⟨#[44]⟩ 0 (Lib.countB s ⟨#[44]⟩) s) = spL 44 s.data.toList := by
    rw [split_spB]
    unfold bs spB
    rw [List.map_map]
    exact List.map_id _
  unfold vParse
  rw [hb]
  by_cases h1 : s = ⟨#[]⟩
  · rw [if_pos h1, if_pos (bytes_nil.2 h1)]
  · rw [if_neg h1, if_neg (fun h => h1 (bytes_nil.1 h))]
    by_cases h2 : s = ⟨#[45]⟩
    · rw [if_pos h2, if_pos (bytes_one.2 h2)]
    · rw [if_neg h2, if_neg (fun h => h2 (bytes_one.1 h))]
theorem splitB_size (sep : ByteArray) : ∀ (k : Nat) (s x : ByteArray), x ∈ Lib.splitB sep 0 k s → x.size ≤ s.size
  | 0, s, x, h => by
    rw [Lib.splitB_zero, List.mem_singleton] at h; subst h; exact Nat.le_refl _
  | k + 1, s, x, h => by
    unfold Lib.splitB at h
    split at h
    · rw [List.mem_singleton] at h; subst h; exact Nat.le_refl _
    · rcases List.mem_cons.1 h with h | h
      · subst h; rw [ByteArray.size_extract]; omega
      · have := splitB_size sep k _ x h
        rw [ByteArray.size_extract] at this; omega
theorem x_parse (s : ByteArray) (hs : s.size < 2147483648) : PF 11 (.cons (.str fun _ => s) .nil) (.tuple (.cons (.agg (.cons (.int .i64 fun _ => (vParse s.data.toList).1.getD 0 0) (.cons (.int .i64 fun _ => (vParse s.data.toList).1.getD 1 0) (.cons (.int .i64 fun _ => (vParse s.data.toList).1.getD 2 0) .nil)))) (.cons (.int .i64 fun _ => (vParse s.data.toList).2) .nil))) := by
  rw [vParse_at]
  refine (⟨Tryd.func11, rfl, rfl, rfl, ⟨rfl, rfl⟩, ok _⟩ : FN 11 Tryd.f11).treeS (mkO_ok Fm_ok) false 40 (.both .any (.both .any .any)) rfl ?_
  conv => arg 5; cbv
  have hs32 : s.size < 4294967281 := by omega
  refine ⟨fun g => ⟨rfl, vq_err ?_⟩, fun g => ⟨fun g2 => ⟨rfl, vq_err ?_⟩, fun g2 => ⟨⟨⟨hs32, Nat.le_refl 1⟩, trivial⟩, ?_⟩⟩⟩
  · rw [if_pos (of_decide_eq_true g)]
  · rw [if_neg (of_decide_eq_false g), if_pos (of_decide_eq_true g2)]
  rw [if_neg (of_decide_eq_false g), if_neg (of_decide_eq_false g2)]
  have hlen : (Lib.splitB ⟨#[44]⟩ 0 (Lib.countB s ⟨#[44]⟩) s).length ≤ 4294967281 := by
    have h1 : 1 ≤ (⟨#[44]⟩ : ByteArray).size := Nat.le_refl _
    rw [Lib.splitB_all ⟨#[44]⟩ h1 0 _ s rfl]
    have := Lib.countB_le ⟨#[44]⟩ h1 _ s (Nat.le_refl _)
    omega
  have hsz : ∀ x ∈ Lib.splitB ⟨#[44]⟩ 0 (Lib.countB s ⟨#[44]⟩) s, x.size < 2147483648 := fun x hx => Nat.lt_of_le_of_lt (splitB_size ⟨#[44]⟩ _ s x hx) hs
  obtain ⟨l, hle⟩ : ∃ l, l = Lib.splitB ⟨#[44]⟩ 0 (Lib.countB s ⟨#[44]⟩) s := ⟨_, rfl⟩
  rw [← hle] at hlen hsz ⊢
  generalize hq : vGo (bs l) [false, false, false] [0, 0, 0] = q
  refine run_inv (ι := Int × List Bool × Int × Int × Int) (fun x => (l.length - x.1).toNat) (VqI l q) (fun x => vqA l x.1) (fun x => vqS x.2.1 x.2.2.1 x.2.2.2.1 x.2.2.2.2) 3 (0, [false, false, false], 0, 0, 0) (fun i => i) (by rfl) (by rfl) ⟨by show (0 : Int) ≤ 0; omega, by show (0 : Int) ≤ _; omega, rfl, hq⟩ ?_ ⟨impP_refl _, impP_refl _, impP_refl _, impP_refl _, impP_refl _, impP_refl _, impP_refl _, trivial⟩ ⟨⟨rfl, rfl⟩, impP_refl _, impP_refl _, trivial⟩
  intro x hx ih
  obtain ⟨i, sn, c, m, h⟩ := x
  have hi0 : 0 ≤ i := hx.lo
  have hi1 : i ≤ l.length := hx.hi
  have hsl : sn.length = 3 := hx.sl
  have he : vGo (bs (l.drop i.toNat)) sn [c, m, h] = q := hx.e
  refine exploreS_ok (ok _) (mkO_ok Fm_ok) (u := false) 30 (.any) _ rfl ?_
  conv => arg 5; cbv
  have dfl : (Sh.str.dflt : ByteArray) = ByteArray.empty := rfl
  refine ⟨fun g => ?_, fun g => ⟨rfl, vq_end ?_⟩⟩
  · have g := of_decide_eq_true g
    obtain ⟨hm, hd⟩ := bs_drop hi0 g
    have hx1 := hsz _ hm
    rw [hd] at he
    generalize hxe : l.getD i.toNat ByteArray.empty = x at *
    have hxe' : @List.getD Sh.str.val l i.toNat Sh.str.dflt = x := hxe
    have hcut : cutB x (⟨#[61]⟩ : ByteArray) = (toB (Lib.cut x.data.toList [61]).1, toB (Lib.cut x.data.toList [61]).2.1, (Lib.cut x.data.toList [61]).2.2) := rfl
    have hbd : ∀ l : List UInt8, (toB l).data.toList = l := fun _ => rfl
    have hx32 : x.size < 4294967281 := by omega
    have hir : 0 ≤ i ∧ i < (l.length : Int) := ⟨hi0, g⟩
    simp only [hxe', hcut, hbd]
    have hrI : 0 ≤ (if vIdx (Lib.cut x.data.toList [61]).1 < 3 then ((vIdx (Lib.cut x.data.toList [61]).1 : Nat) : Int) else 0) ∧ (if vIdx (Lib.cut x.data.toList [61]).1 < 3 then ((vIdx (Lib.cut x.data.toList [61]).1 : Nat) : Int) else 0) < ((3 : Nat) : Int) := by split <;> omega
    refine ⟨⟨hir, hx32, trivial⟩, fun g1 => ⟨⟨hrI, hrI, trivial⟩, fun g2 => ⟨rfl, vq_err ?_⟩, fun g2 => ?_⟩, fun g1 => ?_⟩
    · have g1 : vIdx (Lib.cut x.data.toList [61]).1 < 3 := of_decide_eq_true g1
      have g2 : sn.getD (if vIdx (Lib.cut x.data.toList [61]).1 < 3 then ((vIdx (Lib.cut x.data.toList [61]).1 : Nat) : Int) else 0).toNat false = true := g2
      rw [if_pos g1, Int.toNat_natCast] at g2
      rw [vGo_seen g1 g2] at he
      exact he
    all_goals
      have hno : ¬ (vIdx (Lib.cut x.data.toList [61]).1 < 3 ∧ sn.getD (vIdx (Lib.cut x.data.toList [61]).1) false = true) := by
        first
        | exact fun hc => absurd hc.1 (of_decide_eq_false g1)
        | intro hc
          have g2 : sn.getD (if vIdx (Lib.cut x.data.toList [61]).1 < 3 then ((vIdx (Lib.cut x.data.toList [61]).1 : Nat) : Int) else 0).toNat false = false := g2
          rw [if_pos hc.1, Int.toNat_natCast, hc.2] at g2
          cases g2
      refine ⟨⟨hx1, trivial⟩, fun g3 => ⟨rfl, vq_err ?_⟩, fun g3 => ?_⟩
      · have g3 : (vPart x.data.toList).2.2 ≠ 0 := bneT g3
        rw [vGo_err hno g3] at he
        exact he
      · have g3 : (vPart x.data.toList).2.2 = 0 := bneF g3
        rw [vGo_on hno g3] at he
        have hr := (vPart_ok g3).1
        rw [vq_set hr] at he
        have hr3 : 0 ≤ (((vPart x.data.toList).1 : Nat) : Int) ∧ (((vPart x.data.toList).1 : Nat) : Int) < ((3 : Nat) : Int) := by omega
        generalize (vPart x.data.toList).1 = r at *
        generalize (vPart x.data.toList).2.1 = n at *
        have hw : IntKind.i64.wrap (i + 1) = i + 1 := IntWalk.i64_in _ ⟨by omega, by omega⟩
        have tn : ((r : Nat) : Int).toNat = r := Int.toNat_natCast r
        refine ⟨⟨hr3, hr3, trivial⟩, ?_⟩
        refine ih (i + 1, sn.set r true, if (r : Int) = 0 then (n : Int) else c, if (r : Int) = 1 then (n : Int) else m, if (r : Int) = 2 then (n : Int) else h) (fun i => i) ⟨by show 0 ≤ i + 1; omega, by show i + 1 ≤ l.length; omega, by show (sn.set r true).length = 3; rw [List.length_set]; exact hsl, he⟩ (by show ((l.length : Int) - (i + 1)).toNat < ((l.length : Int) - i).toNat; omega) (by rfl) ⟨⟨rfl, hw⟩, impP_refl _, impP_refl _, impP_refl _, impP_refl _, impP_refl _, impP_refl _, trivial⟩ ⟨⟨rfl, ?_⟩, impP_refl _, impP_refl _, trivial⟩
        show sn.set ((r : Nat) : Int).toNat true = _
        rw [tn]
  · have g : ¬ i < (l.length : Int) := of_decide_eq_false g
    rw [List.drop_eq_nil_of_le (by omega)] at he
    exact he
noncomputable def Fm2 : Table := addS 11 (.cons .str .nil) (fun s => (.tuple (.cons (.agg (.cons (.int .i64 fun _ => (vParse (s ()).data.toList).1.getD 0 0) (.cons (.int .i64 fun _ => (vParse (s ()).data.toList).1.getD 1 0) (.cons (.int .i64 fun _ => (vParse (s ()).data.toList).1.getD 2 0) .nil)))) (.cons (.int .i64 fun _ => (vParse (s ()).data.toList).2) .nil)), [fun _ => (s ()).size < 2147483648])) Fm
theorem Fm2_ok : TableOK Tryd.prog G0 Fm2 := addS_ok (⟨Tryd.func11, rfl, rfl, rfl, ⟨rfl, rfl⟩, ok _⟩ : FN 11 Tryd.f11).callable (fun s h => x_parse (s ()) h.1) Fm_ok
end Go.Proofs.YtdikfhjpnfffnacDoor
