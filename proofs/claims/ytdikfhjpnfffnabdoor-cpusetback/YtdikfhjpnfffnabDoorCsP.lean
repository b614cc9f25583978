/- SETS OF PROCESSORS: sets from texts. -/
import Derived.Test.YtdikfhjpnfffnabDoorCsN
import Derived.Test.YtdikfhjpnfffnabDoorLibB
set_option maxRecDepth 2000
set_option linter.unusedVariables false
set_option linter.unusedSimpArgs false

set_option linter.unusedVariables false
set_option linter.unusedSimpArgs false
namespace Go.Abs
/-- A part of a text: from, to, the error. -/
def part3 (a b : ByteArray) (two : Bool) : Int × Int × Int :=
  bif !two then (numV a, numV a, numE a)
  else bif numE a == 11 then (0, 0, 11)
  else bif numE b == 11 then (0, 0, 11)
  else bif numE a != 0 then (0, 0, 15)
  else bif numE b != 0 then (0, 0, 15)
  else bif decide (numV b ≤ numV a) then (0, 0, 11) else (numV a, numV b, 0)
end Go.Abs
namespace Go.Proofs.YtdikfhjpnfffnabDoor
open Go Go.Abs Go.Proofs
noncomputable def Fp1 : Table := addS 46 (.cons .str (.cons .str .nil)) (fun s t => (.tuple (.cons (.str fun _ => (cutB (s ()) (t ())).1) (.cons (.str fun _ => (cutB (s ()) (t ())).2.1) (.cons (.bool fun _ => (cutB (s ()) (t ())).2.2) .nil))), [fun _ => ByteArray.size (s ()) < 4294967281]))
  (addS 28 (.cons .str (.cons .str .nil)) (fun s t => (Sh.mkL 1 .str fun _ => Lib.splitB (t ()) 0 (Lib.countB (s ()) (t ())) (s ()), [fun _ => ByteArray.size (s ()) < 4294967281 ∧ 1 ≤ ByteArray.size (t ())])) Fn1)
theorem Fp1_ok : TableOK Tryd.prog G0 Fp1 := addS_ok (⟨Tryd.func46, rfl, rfl, rfl, ⟨rfl, rfl⟩, ok _⟩ : FN 46 Tryd.f46).callable (fun s t h => cut_ok (s ()) (t ()) h.1) (addS_ok (⟨Tryd.func28, rfl, rfl, rfl, ⟨rfl, rfl⟩, ok _⟩ : FN 28 Tryd.f28).callable (fun s t h => split_ok (s ()) (t ()) h.1.1 h.1.2) Fn1_ok)
def dash : ByteArray := ⟨#[45]⟩
def partS (s : ByteArray) : Int × Int × Int := part3 (cutB s dash).1 (cutB s dash).2.1 (cutB s dash).2.2
theorem part_ok (s : ByteArray) (hs : s.size < 4294967281) : PF 29 (.cons (.str fun _ => s) .nil) (.tuple (.cons (.int .i64 fun _ => (partS s).1) (.cons (.int .i64 fun _ => (partS s).2.1) (.cons (.int .i64 fun _ => (partS s).2.2) .nil)))) := by
  refine (⟨Tryd.func29, rfl, rfl, rfl, ⟨rfl, rfl⟩, ok _⟩ : FN 29 Tryd.f29).tree (mkO_ok Fp1_ok) false 40 rfl ?_
  conv => arg 5; cbv
  refine ⟨⟨hs, trivial⟩, fun h0 => ?_, fun h0 => ⟨fun h1 => ?_, fun h1 => ⟨fun h2 => ?_, fun h2 => ⟨fun h3 => ?_, fun h3 => ⟨fun h4 => ?_, fun h4 => ⟨fun h5 => ?_, fun h5 => ?_⟩⟩⟩⟩⟩⟩
  all_goals
    try have h0 : (!(cutB s dash).2.2) = true := h0
    try have h0 : (!(cutB s dash).2.2) = false := h0
    try have h1 : (numE (cutB s dash).1 == 11) = true := h1
    try have h1 : (numE (cutB s dash).1 == 11) = false := h1
    try have h2 : (numE (cutB s dash).2.1 == 11) = true := h2
    try have h2 : (numE (cutB s dash).2.1 == 11) = false := h2
    try have h3 : (numE (cutB s dash).1 != 0) = true := h3
    try have h3 : (numE (cutB s dash).1 != 0) = false := h3
    try have h4 : (numE (cutB s dash).2.1 != 0) = true := h4
    try have h4 : (numE (cutB s dash).2.1 != 0) = false := h4
    try have h5 : decide (numV (cutB s dash).2.1 ≤ numV (cutB s dash).1) = true := h5
    try have h5 : decide (numV (cutB s dash).2.1 ≤ numV (cutB s dash).1) = false := h5
    unfold partS part3
    simp only [*, cond_true, cond_false]
    exact ⟨rfl, ⟨rfl, rfl⟩, ⟨rfl, rfl⟩, ⟨rfl, rfl⟩, rfl⟩
/-- What the parts of a text come to. -/
def parseL : List ByteArray → (Nat → Bool) → List Int × Int
  | [], p => (setOf p, 0)
  | x :: r, p =>
    bif (partS x).2.2 != 0 then ([0, 0, 0, 0], (partS x).2.2)
    else bif decide (setOf (fun i => p i && between (partS x).1 (partS x).2.1 i) = [0, 0, 0, 0]) then parseL r fun i => p i || between (partS x).1 (partS x).2.1 i
    else ([0, 0, 0, 0], 22)
def comma : ByteArray := ⟨#[44]⟩
def parseS (s : ByteArray) : List Int × Int :=
  bif decide (s = ⟨#[]⟩) then ([0, 0, 0, 0], 10) else bif decide (s = dash) then ([0, 0, 0, 0], 0) else parseL (Lib.splitB comma 0 (Lib.countB s comma) s) fun _ => false
noncomputable def Fp2 : Table := addS 29 (.cons .str .nil) (fun s => (.tuple (.cons (.int .i64 fun _ => (partS (s ())).1) (.cons (.int .i64 fun _ => (partS (s ())).2.1) (.cons (.int .i64 fun _ => (partS (s ())).2.2) .nil))), [fun _ => ByteArray.size (s ()) < 4294967281])) Fp1
theorem Fp2_ok : TableOK Tryd.prog G0 Fp2 := addS_ok (⟨Tryd.func29, rfl, rfl, rfl, ⟨rfl, rfl⟩, ok _⟩ : FN 29 Tryd.f29).callable (fun s h => part_ok (s ()) h.1) Fp1_ok
def paA (l : List ByteArray) (i : Int) : Env := [(21, .int .i64 fun _ => i), (20, .int .i64 fun _ => (l.length : Int)), (19, Sh.mkL 1 .str fun _ => l), (4, .ptr 1 0), (3, .int .i64 fun _ => 0), (2, .ptr 0 0)]
def paS (p : Nat → Bool) : Store := [(1, .var (.arrI .u64 4 fun _ => setOf p)), (0, .var (.arrI .u64 4 fun _ => List.replicate 4 0))]
theorem parseL_stop {x : ByteArray} {r : List ByteArray} {p : Nat → Bool} (h : ((partS x).2.2 != 0) = true) : parseL (x :: r) p = ([0, 0, 0, 0], (partS x).2.2) := by
  rw [parseL, h]; rfl
theorem parseL_on {x : ByteArray} {r : List ByteArray} {p : Nat → Bool} (h : ((partS x).2.2 != 0) = false) :
    parseL (x :: r) p = bif !decide (setOf (fun i => bitAt (setOf p) i && bitAt (setOf (between (partS x).1 (partS x).2.1)) i) = List.replicate 4 0) then ([0, 0, 0, 0], 22) else parseL r fun i => p i || between (partS x).1 (partS x).2.1 i := by
  rw [parseL, h]
  have e : setOf (fun i => bitAt (setOf p) i && bitAt (setOf (between (partS x).1 (partS x).2.1)) i) = setOf (fun i => p i && between (partS x).1 (partS x).2.1 i) := setOf_ext fun i hi => by rw [bitAt_setOf hi, bitAt_setOf hi]
  rw [e, show List.replicate 4 (0 : Int) = [0, 0, 0, 0] from rfl]
  cases decide (setOf (fun i => p i && between (partS x).1 (partS x).2.1 i) = [0, 0, 0, 0]) <;> rfl
theorem numV_range (s : ByteArray) : 0 ≤ numV s ∧ numV s < 256 := by
  unfold numV
  cases h : decide (0 ≤ numR s) && decide (numR s < 256) with
  | false => exact ⟨Int.le_refl _, (by omega : (0 : Int) < 256)⟩
  | true => simpa using h
theorem partS_range (s : ByteArray) : 0 ≤ (partS s).1 ∧ (partS s).1 < 256 ∧ 0 ≤ (partS s).2.1 ∧ (partS s).2.1 < 256 := by
  have ha := numV_range (cutB s dash).1
  have hb := numV_range (cutB s dash).2.1
  unfold partS part3
  generalize (!(cutB s dash).2.2) = c0
  generalize (numE (cutB s dash).1 == 11) = c1
  generalize (numE (cutB s dash).2.1 == 11) = c2
  generalize (numE (cutB s dash).1 != 0) = c3
  generalize (numE (cutB s dash).2.1 != 0) = c4
  generalize decide (numV (cutB s dash).2.1 ≤ numV (cutB s dash).1) = c5
  cases c0 <;> cases c1 <;> cases c2 <;> cases c3 <;> cases c4 <;> cases c5 <;> simp only [cond_true, cond_false] <;> omega
theorem splitB_size (sep : ByteArray) : ∀ (k : Nat) (s x : ByteArray), x ∈ Lib.splitB sep 0 k s → x.size ≤ s.size
  | 0, s, x, h => by
    rw [Lib.splitB_zero, List.mem_singleton] at h; subst h; exact Nat.le_refl _
  | k + 1, s, x, h => by
    unfold Lib.splitB at h
    split at h
    · rw [List.mem_singleton] at h; subst h; exact Nat.le_refl _
    · rcases List.mem_cons.1 h with h | h
      · subst h; rw [ByteArray.size_extract]; omega
      · have := splitB_size sep k _ x h
        rw [ByteArray.size_extract] at this; omega
theorem parse_ok (s : ByteArray) (hs : s.size < 4294967281) : PF 8 (.cons (.str fun _ => s) .nil) (.tuple (.cons (.arrI .u64 4 fun _ => (parseS s).1) (.cons (.int .i64 fun _ => (parseS s).2) .nil))) := by
  have hl : (Lib.splitB comma 0 (Lib.countB s comma) s).length ≤ 4294967281 := by
    have h1 : 1 ≤ comma.size := Nat.le_refl _
    rw [Lib.splitB_all comma h1 0 _ s rfl]
    have := Lib.countB_le comma h1 _ s (Nat.le_refl _)
    omega
  have hsz : ∀ x ∈ Lib.splitB comma 0 (Lib.countB s comma) s, x.size < 4294967281 := fun x hx => Nat.lt_of_le_of_lt (splitB_size comma _ s x hx) hs
  refine (⟨Tryd.func8, rfl, rfl, rfl, ⟨rfl, rfl⟩, ok _⟩ : FN 8 Tryd.f8).tree (mkO_ok Fp2_ok) false 40 rfl ?_
  conv => arg 5; cbv
  refine ⟨fun h1 => ?_, fun h1 => ⟨fun h2 => ?_, fun h2 => ⟨⟨⟨hs, ?_⟩, trivial⟩, ?_⟩⟩⟩
  · have e : parseS s = ([0, 0, 0, 0], 10) := by
      unfold parseS
      rw [show decide (s = ⟨#[]⟩) = true from h1]; rfl
    rw [e]
    exact ⟨rfl, ⟨rfl, rfl, rfl⟩, ⟨rfl, rfl⟩, rfl⟩
  · have e : parseS s = ([0, 0, 0, 0], 0) := by
      unfold parseS
      rw [show decide (s = ⟨#[]⟩) = false from h1, show decide (s = dash) = true from h2]; rfl
    rw [e]
    exact ⟨rfl, ⟨rfl, rfl, rfl⟩, ⟨rfl, rfl⟩, rfl⟩
  · exact Nat.le_refl 1
  · have e : parseS s = parseL (Lib.splitB comma 0 (Lib.countB s comma) s) fun _ => false := by
      unfold parseS
      rw [show decide (s = ⟨#[]⟩) = false from h1, show decide (s = dash) = false from h2]
      rfl
    rw [e]
    obtain ⟨l, hle⟩ : ∃ l, l = Lib.splitB comma 0 (Lib.countB s comma) s := ⟨_, rfl⟩
    have h0 : impP (Sh.mkL 1 .str fun _ => Lib.splitB comma 0 (Lib.countB s comma) s) (Sh.mkL 1 .str fun _ => l) := by rw [← hle]; exact impP_refl _
    have h00 : (fun x => ((Lib.splitB comma 0 (Lib.countB s comma) s).length : Int)) () = (fun x => (l.length : Int)) () := by rw [← hle]
    rw [← hle] at hl hsz ⊢
    generalize hq : parseL l (fun _ => false) = q
    refine run_inv (ι := Int × (Nat → Bool)) (fun i => (l.length - i.1).toNat) (fun i => 0 ≤ i.1 ∧ i.1 ≤ l.length ∧ parseL (l.drop i.1.toNat) i.2 = q) (fun i => paA l i.1) (fun i => paS i.2) 2 (0, fun _ => false) (fun i => i) (by rfl) (by rfl) ⟨by omega, by omega, hq⟩ ?_ ?_ ?_
    · intro i hi ih
      refine explore_ok (ok _) (mkO_ok Fp2_ok) (u := false) 20 _ rfl ?_
      conv => arg 5; cbv
      refine ⟨fun h => ?_, fun h => ?_⟩
      · have h : i.1 < l.length := by simpa using h
        have hx : l[i.1.toNat]? = some (l.getD i.1.toNat ByteArray.empty) := by rw [List.getD_eq_getElem?_getD, List.getElem?_eq_getElem (by omega)]; rfl
        obtain ⟨x, hxe⟩ : ∃ x, x = l.getD i.1.toNat ByteArray.empty := ⟨_, rfl⟩
        rw [← hxe] at hx
        have hd : l.drop i.1.toNat = x :: l.drop (i.1 + 1).toNat := by
          rw [show (i.1 + 1).toNat = i.1.toNat + 1 by omega, ← List.getElem_cons_drop (by omega : i.1.toNat < l.length)]
          rw [List.getElem?_eq_getElem (by omega)] at hx
          rw [Option.some.inj hx]
        have hmem : x ∈ l := List.mem_of_getElem? hx
        have hi3 := hi.2.2
        rw [hd] at hi3
        have hr := partS_range x
        have hszx := hsz x hmem
        subst hxe
        refine ⟨⟨⟨hi.1, h⟩, hszx, trivial⟩, fun h2 => ?_, fun h2 => ⟨⟨?_, ⟨okSet_setOf _, okSet_setOf _⟩, trivial⟩, fun h3 => ?_, fun h3 => ⟨⟨⟨okSet_setOf _, okSet_setOf _⟩, trivial⟩, ?_⟩⟩⟩
        · rw [parseL_stop (x := l.getD i.1.toNat ByteArray.empty) h2] at hi3
          rw [← hi3]
          exact ⟨rfl, ⟨rfl, rfl, rfl⟩, ⟨rfl, rfl⟩, rfl⟩
        · show (partS (l.getD i.1.toNat ByteArray.empty)).1 ≤ 9223372036854775807
          omega
        · rw [parseL_on (x := l.getD i.1.toNat ByteArray.empty) h2] at hi3
          have h3 : (!decide (setOf (fun i_1 => bitAt (setOf i.2) i_1 && bitAt (setOf (between (partS (l.getD i.1.toNat ByteArray.empty)).1 (partS (l.getD i.1.toNat ByteArray.empty)).2.1)) i_1) = List.replicate 4 0)) = true := h3
          rw [h3] at hi3
          rw [← hi3]
          exact ⟨rfl, ⟨rfl, rfl, rfl⟩, ⟨rfl, rfl⟩, rfl⟩
        · rw [parseL_on (x := l.getD i.1.toNat ByteArray.empty) h2] at hi3
          have h3 : (!decide (setOf (fun i_1 => bitAt (setOf i.2) i_1 && bitAt (setOf (between (partS (l.getD i.1.toNat ByteArray.empty)).1 (partS (l.getD i.1.toNat ByteArray.empty)).2.1)) i_1) = List.replicate 4 0)) = false := h3
          rw [h3] at hi3
          have hw : IntKind.i64.wrap (i.1 + 1) = i.1 + 1 := IntWalk.i64_in _ ⟨by omega, by omega⟩
          refine ih (i.1 + 1, fun j => i.2 j || between (partS (l.getD i.1.toNat ByteArray.empty)).1 (partS (l.getD i.1.toNat ByteArray.empty)).2.1 j) (fun i => i) ⟨by show 0 ≤ i.1 + 1; omega, by show i.1 + 1 ≤ l.length; omega, hi3⟩ (by show ((l.length : Int) - (i.1 + 1)).toNat < _; omega) (by rfl) ?_ ?_
          · exact ⟨⟨rfl, hw⟩, impP_refl _, impP_refl _, impP_refl _, impP_refl _, impP_refl _, trivial⟩
          · refine ⟨⟨rfl, rfl, ?_⟩, impP_refl _, trivial⟩
            show setOf (fun j => bitAt (setOf i.2) j || bitAt (setOf (between (partS (l.getD i.1.toNat ByteArray.empty)).1 (partS (l.getD i.1.toNat ByteArray.empty)).2.1)) j) = setOf fun j => i.2 j || between (partS (l.getD i.1.toNat ByteArray.empty)).1 (partS (l.getD i.1.toNat ByteArray.empty)).2.1 j
            exact setOf_ext fun j hj => by rw [bitAt_setOf hj, bitAt_setOf hj]
      · have h : ¬ i.1 < l.length := by simpa using h
        have hi3 := hi.2.2
        rw [List.drop_eq_nil_of_le (by omega)] at hi3
        rw [← hi3]
        exact ⟨rfl, ⟨rfl, rfl, rfl⟩, ⟨rfl, rfl⟩, rfl⟩
    · exact ⟨impP_refl _, ⟨rfl, h00⟩, h0, impP_refl _, impP_refl _, impP_refl _, trivial⟩
    · exact ⟨⟨rfl, rfl, setOf_zero.symm⟩, ⟨rfl, rfl, rfl⟩, trivial⟩
noncomputable def Fp3 : Table := addS 8 (.cons .str .nil) (fun s => (.tuple (.cons (.arrI .u64 4 fun _ => (parseS (s ())).1) (.cons (.int .i64 fun _ => (parseS (s ())).2) .nil)), [fun _ => ByteArray.size (s ()) < 4294967281])) Fp2
theorem Fp3_ok : TableOK Tryd.prog G0 Fp3 := addS_ok (⟨Tryd.func8, rfl, rfl, rfl, ⟨rfl, rfl⟩, ok _⟩ : FN 8 Tryd.f8).callable (fun s h => parse_ok (s ()) h.1) Fp2_ok
end Go.Proofs.YtdikfhjpnfffnabDoor
