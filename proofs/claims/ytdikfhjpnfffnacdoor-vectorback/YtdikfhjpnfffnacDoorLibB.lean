/- GO's LIBRARY by the shelf's contracts: what cuts texts. -/
import Derived.Test.YtdikfhjpnfffnacDoorBase
import Derived.Test.YtdikfhjpnfffnacDoorShelf
import Derived.WalkSmall
import Derived.Lib.SplitLaws
set_option maxRecDepth 2000
set_option linter.unusedVariables false
set_option linter.unusedSimpArgs false
set_option linter.unusedVariables false
set_option linter.unusedSimpArgs false
namespace Go.Abs
variable {P : Program} {G : Gs}
/-- A library's function that makes blocks, and leaves those that there were. -/
theorem PFun.of_news {f : Nat} {args r : PV} (hc : Callable P f)
    (h : ∀ (M : Mem) (w : World) (vs : List Value), GOK G M → Inv M noNames none0 w → rel M args noNames .vals vs → Calls P f vs.toArray w fun e w' => ∃ v, e = .returned v ∧ RowKit.Below w.heap.size w w' ∧ ∀ M' : Mem, (∀ b i x, w.heap.size ≤ b → w'.cell? ⟨b, i, none⟩ = some x → M' b i = some x) → M.le M' → rel M' r noNames .val [v]) : PFun P G f args r := by
  refine ⟨hc, fun M w vs hG hI hr => (h M w vs hG hI hr).mono ?_⟩
  rintro e w' ⟨v, rfl, hb, hv⟩
  have hlt : ∀ b i x, M b i = some x → b < w.heap.size := fun b i x hm => hI.mem_lt hm
  have hle : M.le ⟨fun b i => if b < w.heap.size then M b i else w'.cell? ⟨b, i, none⟩, M.stat⟩ := ⟨fun b i x hm => by show (if b < w.heap.size then M b i else _) = some x; rw [if_pos (hlt b i x hm)]; exact hm, fun _ _ h => h⟩
  refine ⟨⟨fun b i => if b < w.heap.size then M b i else w'.cell? ⟨b, i, none⟩, M.stat⟩, noNames, v, none0, rfl, ⟨⟨fun b i v hm => ?_, fun id o ho => (by cases ho), fun id id' o o' ho => (by cases ho), fun id id' o o' ho => (by cases ho), fun b o ho => ⟨(hb.block b (lt_of_get (hI.stat b o ho).1)).trans (hI.stat b o ho).1, fun ⟨_, _, h, _⟩ => (by cases h)⟩⟩, hle, fun _ _ => rfl, hb.os, hb.tape, hb.output, hb.size, fun b hlt _ => hb.block b hlt, fun b ho => .inr ho, fun b i h1 h2 => ?_, rfl⟩, hv _ (fun b i x hb' hx => by show (if b < w.heap.size then M b i else _) = some x; rw [if_neg (by omega)]; exact hx) hle⟩
  · have hm : (if b < w.heap.size then M b i else w'.cell? ⟨b, i, none⟩) = some v := hm
    by_cases hlt : b < w.heap.size
    · rw [if_pos hlt] at hm
      rw [cell_of_heap (hb.block b hlt)]; exact hI.mem b i v hm
    · rw [if_neg hlt] at hm; exact hm
  · have h1 : (if b < w.heap.size then M b i else w'.cell? ⟨b, i, none⟩) ≠ none := h1
    by_cases hlt : b < w.heap.size
    · rw [if_pos hlt, h2] at h1; exact absurd rfl h1
    · exact .inl (by omega)
end Go.Abs
namespace Go.Proofs.YtdikfhjpnfffnacDoor
open Go Go.Abs Go.Proofs
theorem maxLen {M : Mem} {w : World} {g} (hG : GOK G0 M) (hI : Inv M noNames g w) : ∃ m, w.cell? ⟨0, 0, none⟩ = some (.int .i64 m) := by
  obtain ⟨cs, t, fr, m, e, e2⟩ := hG.2.1 0 (by kernel_rfl)
  refine ⟨m, ?_⟩
  have := (hI.stat _ _ e).1
  simp [World.cell?, this, e2]
def cutB (s sep : ByteArray) : ByteArray × ByteArray × Bool := (⟨(Lib.cut s.data.toList sep.data.toList).1.toArray⟩, ⟨(Lib.cut s.data.toList sep.data.toList).2.1.toArray⟩, (Lib.cut s.data.toList sep.data.toList).2.2)
theorem two_str {M : Mem} {s sep : ByteArray} {vs : List Value} (hr : rel M (.cons (.str fun _ => s) (.cons (.str fun _ => sep) .nil)) noNames .vals vs) : vs = [.string s, .string sep] := by
  rcases hr with ⟨h, _⟩ | ⟨_, v, ws, rfl, hv, hn⟩
  · cases h
  rcases hn with ⟨h, _⟩ | ⟨_, v2, ws, rfl, hv2, hn⟩
  · cases h
  obtain ⟨_, rfl⟩ := hn
  obtain ⟨_, hv⟩ := hv
  obtain ⟨_, hv2⟩ := hv2
  obtain rfl : v = .string s := by simpa using hv
  obtain rfl : v2 = .string sep := by simpa using hv2
  rfl
theorem cut_ok (s sep : ByteArray) (hs : s.size < 4294967281) : PF 28 (.cons (.str fun _ => s) (.cons (.str fun _ => sep) .nil)) (.tuple (.cons (.str fun _ => (cutB s sep).1) (.cons (.str fun _ => (cutB s sep).2.1) (.cons (.bool fun _ => (cutB s sep).2.2) .nil)))) := by
  refine PFun.of_news (⟨Tryd.func28, rfl, rfl, rfl, ⟨rfl, rfl⟩, ok _⟩ : FN 28 Tryd.f28).callable fun M w vs hG hI hr => ?_
  obtain rfl := two_str hr
  obtain ⟨m, hm⟩ := maxLen hG hI
  refine (Tryd.strings_Cut s sep m w hs hm).mono ?_
  rintro e w' ⟨rfl, n, rfl⟩
  refine ⟨_, rfl, below_drewN (RowKit.Below.refl _ _) n, fun M' _ _ => ?_⟩
  refine ⟨rfl, [.string (cutB s sep).1, .string (cutB s sep).2.1, .bool (cutB s sep).2.2], rfl, .inr ⟨rfl, _, _, rfl, ⟨by simp, rfl⟩, .inr ⟨rfl, _, _, rfl, ⟨by simp, rfl⟩, .inr ⟨rfl, _, _, rfl, ⟨by simp, rfl⟩, by simp, rfl⟩⟩⟩⟩
theorem split_ok (s sep : ByteArray) (hs : s.size < 4294967281) (h1 : 1 ≤ sep.size) : PF 27 (.cons (.str fun _ => s) (.cons (.str fun _ => sep) .nil)) (Sh.mkL 1 .str fun _ => Lib.splitB sep 0 (Lib.countB s sep) s) := by
  refine PFun.of_news (⟨Tryd.func27, rfl, rfl, rfl, ⟨rfl, rfl⟩, ok _⟩ : FN 27 Tryd.f27).callable fun M w vs hG hI hr => ?_
  obtain rfl := two_str hr
  obtain ⟨m, hm⟩ := maxLen hG hI
  refine (Tryd.strings_Split s sep m w hs hm h1).mono ?_
  rintro e w' ⟨rfl, rfl⟩
  have hlen := Lib.splitB_all sep h1 0 _ s rfl
  have hcl := Lib.countB_le sep h1 _ s (Nat.le_refl _)
  refine ⟨_, rfl, (RowKit.Below.refl _ _).alloc (Nat.le_refl _) _, fun M' hM' _ => ⟨_, _, _, ⟨by simp, rfl⟩, ?_, Nat.le_refl _, ?_, fun id h => (by cases h), fun _ => ⟨_, 0, rfl, fun j hj => ?_⟩⟩⟩
  · show ((Lib.countB s sep + 1 : Nat) : Int) = ((Lib.splitB sep 0 (Lib.countB s sep) s).length : Int)
    rw [hlen]
  · have : (4294967282 : Nat) ≤ Go.maxLen := by decide
    omega
  · have hx : (Lib.splitB sep 0 (Lib.countB s sep) s)[j]? = some ((Lib.splitB sep 0 (Lib.countB s sep) s).getD j ByteArray.empty) := by
      rw [List.getD_eq_getElem?_getD, List.getElem?_eq_getElem (by omega)]; rfl
    refine ⟨[.string ((Lib.splitB sep 0 (Lib.countB s sep) s).getD j ByteArray.empty)], rfl, ⟨by simp, rfl⟩, fun q hq => ?_⟩
    obtain rfl : q = 0 := by omega
    refine hM' _ _ _ (Nat.le_refl _) ?_
    rw [show 0 + j * 1 + 0 = j by omega]
    unfold World.cell?
    rw [World.alloc_heap_new]
    show ((Lib.splitB sep 0 (Lib.countB s sep) s).map Value.string).toArray[j]? = _
    rw [List.getElem?_toArray, List.getElem?_map, hx]
    rfl
end Go.Proofs.YtdikfhjpnfffnacDoor
