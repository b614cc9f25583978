/- THE DOCUMENT's TEXTS: cut at a byte, and a number's text. -/
import Derived.Test.YtdikfhjpnfffnabDoorCsRef
import Derived.Test.YtdikfhjpnfffnabDoorCsN
import Derived.Test.YtdikfhjpnfffnabDoorGc
set_option maxRecDepth 2000
set_option linter.unusedVariables false
set_option linter.unusedSimpArgs false
set_option linter.unusedVariables false
set_option linter.unusedSimpArgs false
namespace Go.Proofs.YtdikfhjpnfffnabDoor
open Go Go.Abs Go.Proofs
def sqA (s : ByteArray) (c : Int) (x : Int × Int × List ByteArray) : Env := [(7, .int .i64 fun _ => x.1), (6, .int .i64 fun _ => x.2.1), (5, .slice (some 0) 1 (fun _ => (x.2.2.length : Int)) fun j => .str fun _ => x.2.2.getD (j ()).toNat ByteArray.empty), (0, .str fun _ => s), (1, .int .u8 fun _ => c)]
def sqS : Store := [(0, .own 1 9)]
theorem ext_toB (s : ByteArray) (a b : Nat) : s.extract a b = toB ((s.data.toList.take b).drop a) := by
  rw [← toB_data (s.extract a b)]
  congr 1
  rw [Lib.extract_data, List.drop_take]
theorem drop_at {s : ByteArray} {i : Int} (h0 : 0 ≤ i) (h : i < s.size) : ∃ x : UInt8, s.data.toList[i.toNat]? = some x ∧ byteAt s i = (x.toNat : Int) ∧ s.data.toList.drop i.toNat = x :: s.data.toList.drop (i + 1).toNat ∧ s.data.toList.take (i + 1).toNat = s.data.toList.take i.toNat ++ [x] := by
  have hl : i.toNat < s.data.toList.length := by
    rw [show s.data.toList.length = s.size from bsize s]; omega
  refine ⟨s.data.toList[i.toNat], List.getElem?_eq_getElem hl, ?_, ?_, ?_⟩
  · unfold byteAt
    rw [List.getD_eq_getElem?_getD, List.getElem?_eq_getElem hl]; rfl
  · rw [show (i + 1).toNat = i.toNat + 1 by omega, List.getElem_cons_drop]
  · rw [show (i + 1).toNat = i.toNat + 1 by omega, List.take_add_one, List.getElem?_eq_getElem hl]; rfl
def ren10 : Nat → Nat := fun i => bif beqN i 0 then 1 else i
structure SqI (s : ByteArray) (c : UInt8) (x : Int × Int × List ByteArray) : Prop where
  h0 : 0 ≤ x.2.1
  h1 : x.2.1 ≤ x.1
  h2 : x.1 ≤ s.size
  few : (x.2.2.length : Int) ≤ x.1
  all : x.2.2 ++ (glue ((s.data.toList.take x.1.toNat).drop x.2.1.toNat) (spL c (s.data.toList.drop x.1.toNat))).map toB = spB c s
theorem refSplit_ok (s : ByteArray) (c : Int) (hc : 0 ≤ c ∧ c < 256) (hs : s.size < 4294967281) : PF 30 (.cons (.str fun _ => s) (.cons (.int .u8 fun _ => c) .nil)) (Sh.mkL 1 .str fun _ => spB (UInt8.ofNat c.toNat) s) := by
  refine (⟨Tryd.func30, rfl, rfl, rfl, ⟨rfl, rfl⟩, ok _⟩ : FN 30 Tryd.f30).tree (mkO_ok F0_ok) false 40 rfl ?_
  conv => arg 5; cbv
  refine run_own (A := _) 5 1 9 (.str fun _ => ByteArray.empty) (by rfl) (by rfl) (by rfl) ?_
  generalize hch : UInt8.ofNat c.toNat = ch
  refine run_inv (ι := Int × Int × List ByteArray) (fun x => (s.size - x.1).toNat) (SqI s ch) (sqA s c) (fun _ => sqS) 1 (0, 0, []) (fun i => i) (by rfl) (by rfl) ⟨Int.le_refl _, Int.le_refl _, by show (0 : Int) ≤ s.size; omega, Int.le_refl _, by
    show [] ++ (glue [] (spL ch s.data.toList)).map toB = spB ch s
    rw [glue_nil, List.nil_append]; rfl⟩ ?_ ?_ ?_
  · intro x hx ih
    refine explore_ok (ok _) (mkO_ok F0_ok) (u := false) 20 _ rfl ?_
    conv => arg 5; cbv
    have hx0 := hx.h0
    have hx1 := hx.h1
    have hx2 := hx.h2
    have hfew := hx.few
    have hall := hx.all
    refine ⟨fun h => ?_, fun h => ?_⟩
    · have h : x.1 < s.size := by simpa using h
      have hw : IntKind.i64.wrap (x.1 + 1) = x.1 + 1 := IntWalk.i64_in _ ⟨by omega, by omega⟩
      obtain ⟨b, b1, b2, b3, b4⟩ := drop_at (s := s) (i := x.1) (by omega) h
      rw [b3] at hall
      refine ⟨⟨⟨Int.le_trans hx0 hx1, h⟩, trivial⟩, fun h2 => ⟨⟨⟨hx0, hx1, hx2⟩, ⟨by show (0 : Int) < 1; omega, ?_⟩, trivial⟩, ?_⟩, fun h2 => ?_⟩
      · show ((x.2.2.length : Int) + 1) * 16 ≤ 140737488355328
        omega
      · have h2 : (byteAt s x.1 == c) = true := h2
        have hbc : b = ch := by
          have : byteAt s x.1 = c := by simpa using h2
          rw [← hch, ← this, b2, Int.toNat_natCast, UInt8.ofNat_toNat]
        rw [hbc, glue_hit] at hall
        refine ih (x.1 + 1, x.1 + 1, x.2.2 ++ [s.extract x.2.1.toNat x.1.toNat]) ren10 ⟨?_, Int.le_refl _, ?_, ?_, ?_⟩ ?_ (by rfl) ⟨⟨rfl, hw⟩, ⟨rfl, hw⟩, push_imp .str (some 1) 1 x.2.2 _, impP_refl _, impP_refl _, trivial⟩ ⟨⟨rfl, rfl⟩, trivial⟩
        · show (0 : Int) ≤ x.1 + 1; omega
        · show x.1 + 1 ≤ s.size; omega
        · show ((x.2.2 ++ [s.extract x.2.1.toNat x.1.toNat]).length : Int) ≤ x.1 + 1
          rw [List.length_append, List.length_singleton]; omega
        · show (x.2.2 ++ [s.extract x.2.1.toNat x.1.toNat]) ++ (glue ((s.data.toList.take (x.1 + 1).toNat).drop (x.1 + 1).toNat) (spL ch (s.data.toList.drop (x.1 + 1).toNat))).map toB = spB ch s
          rw [List.drop_eq_nil_of_le (by rw [List.length_take]; omega), glue_nil, ext_toB, ← hall, List.append_assoc]
          rfl
        · show ((s.size : Int) - (x.1 + 1)).toNat < ((s.size : Int) - x.1).toNat
          omega
      · have h2 : (byteAt s x.1 == c) = false := h2
        have hbc : b ≠ ch := by
          intro e
          rw [e, ← hch] at b2
          have : byteAt s x.1 = c := by
            rw [b2, UInt8.toNat_ofNat', Nat.mod_eq_of_lt (by omega)]; omega
          rw [this] at h2; simp at h2
        rw [glue_miss hbc] at hall
        refine ih (x.1 + 1, x.2.1, x.2.2) (fun i => i) ⟨hx0, ?_, ?_, ?_, ?_⟩ ?_ (by rfl) ⟨⟨rfl, hw⟩, impP_refl _, impP_refl _, impP_refl _, impP_refl _, trivial⟩ ⟨⟨rfl, rfl⟩, trivial⟩
        · show x.2.1 ≤ x.1 + 1; omega
        · show x.1 + 1 ≤ s.size; omega
        · show (x.2.2.length : Int) ≤ x.1 + 1; omega
        · show x.2.2 ++ (glue ((s.data.toList.take (x.1 + 1).toNat).drop x.2.1.toNat) (spL ch (s.data.toList.drop (x.1 + 1).toNat))).map toB = spB ch s
          have hl : x.2.1.toNat ≤ (s.data.toList.take x.1.toNat).length := by
            rw [List.length_take, show s.data.toList.length = s.size from bsize s]; omega
          rw [b4, List.drop_append_of_le_length hl, ← hall]
        · show ((s.size : Int) - (x.1 + 1)).toNat < ((s.size : Int) - x.1).toNat
          omega
    · have h : ¬ x.1 < s.size := by simpa using h
      have e : x.1 = s.size := by omega
      have hdn : s.data.toList.drop s.size = [] := List.drop_eq_nil_of_le (by rw [show s.data.toList.length = s.size from bsize s]; exact Nat.le_refl _)
      rw [e, Int.toNat_natCast, hdn, glue_end] at hall
      refine ⟨⟨⟨hx0, by show x.2.1 ≤ (s.size : Int); omega⟩, ⟨by show (0 : Int) < 1; omega, ?_⟩, trivial⟩, rfl, ?_⟩
      · show ((x.2.2.length : Int) + 1) * 16 ≤ 140737488355328
        omega
      · have hall2 : x.2.2 ++ [s.extract x.2.1.toNat (s.size : Int).toNat] = spB ch s := by rw [ext_toB]; exact hall
        rw [← hall2]
        exact push_imp .str none 1 x.2.2 _
  · exact ⟨impP_refl _, impP_refl _, ⟨.inr rfl, rfl, rfl, fun j h0 h1 => absurd h1 (by show ¬ j < 0; omega)⟩, impP_refl _, impP_refl _, trivial⟩
  · exact ⟨⟨rfl, rfl⟩, trivial⟩
noncomputable def Fq1 : Table := addS 30 (.cons .str (.cons (.int .u8) .nil)) (fun s c => (Sh.mkL 1 .str fun _ => spB (UInt8.ofNat (c ()).toNat) (s ()), [fun _ => (0 ≤ c () ∧ c () < 256) ∧ ByteArray.size (s ()) < 4294967281]))
  (addS 31 (.cons .str .nil) (fun s => (.int .i64 fun _ => numR (s ()), [])) F0)
theorem Fq1_ok : TableOK Tryd.prog G0 Fq1 := addS_ok (⟨Tryd.func30, rfl, rfl, rfl, ⟨rfl, rfl⟩, ok _⟩ : FN 30 Tryd.f30).callable (fun s c h => refSplit_ok (s ()) (c ()) h.1.1 h.1.2) (addS_ok (⟨Tryd.func31, rfl, rfl, rfl, ⟨rfl, rfl⟩, ok _⟩ : FN 31 Tryd.f31).callable (fun s _ => refNumber_ok (s ())) F0_ok)
end Go.Proofs.YtdikfhjpnfffnabDoor
