/- GO's LIBRARY by the shelf's contracts. -/
import Derived.Test.YtdikfhjpnfffnabDoorBase
import Derived.Test.YtdikfhjpnfffnabDoorShelf
import Derived.Test.YtdikfhjpnfffnabDoorGc
set_option maxRecDepth 2000
set_option linter.unusedVariables false
set_option linter.unusedSimpArgs false
set_option linter.unusedVariables false
set_option linter.unusedSimpArgs false
namespace Go.Proofs.YtdikfhjpnfffnabDoor
open Go Go.Abs Go.Proofs
/-- Up to where numbers are told. -/
def itoaLim : Int := 9223372036854775808
theorem pow10_of {M : Mem} {w : World} {g} (hG : GOK G0 M) (hI : Inv M noNames g w) : Lib.TabIs Tryd.prog w "internal/strconv.uint64pow10" .u64 Lib.pow10Tab := by
  have hg : Tryd.prog.globalNamed "internal/strconv.uint64pow10" = some 1 := by kernel_rfl
  obtain ⟨t, fr, e⟩ := hG.2.2 _ hg
  have h := (hI.stat _ _ e).1
  unfold Lib.TabIs World.var?
  rw [hg]
  show (match w.heap[1]? with
    | some (Obj.cells cs _ _) => some cs
    | _ => none) = _
  rw [h]
theorem itoa_ok (n : Int) (h0 : 0 ≤ n) (h1 : n < itoaLim) : PF 33 (.cons (i64 n) .nil) (.str fun _ => itoaB n) := by
  refine PFun.of_below (⟨Tryd.func33, rfl, rfl, rfl, ⟨rfl, rfl⟩, ok _⟩ : FN 33 Tryd.f33).callable fun M w vs hG hI hr => ?_
  rcases hr with ⟨h, _⟩ | ⟨_, v, ws, rfl, hv, hn⟩
  · cases h
  obtain ⟨_, rfl⟩ := hn
  obtain ⟨_, hv⟩ := hv
  obtain rfl : v = .int .i64 n := by simpa using hv
  have h1 : n < 9223372036854775808 := h1
  refine (Tryd.strconv_Itoa n (by omega) (by omega) w (pow10_of hG hI)).mono ?_
  rintro e w' ⟨rfl, k, os, rfl⟩
  exact ⟨_, rfl, ⟨rfl, rfl, rfl, by simp [Go.Sort.grow, World.drewN], fun b hb => by
    show (w.heap ++ os)[b]? = w.heap[b]?
    rw [Array.getElem?_append_left hb]⟩, by simp, rfl⟩
theorem join_ok (l : List ByteArray) (sep : ByteArray) (h1 : l.length ≤ 140737488355328) (h2 : (joinB l sep).size ≤ 140737488355328) : PF 34 (.cons (Sh.mkL 1 .str fun _ => l) (.cons (.str fun _ => sep) .nil)) (.str fun _ => joinB l sep) := by
  refine PFun.of_below (⟨Tryd.func34, rfl, rfl, rfl, ⟨rfl, rfl⟩, ok _⟩ : FN 34 Tryd.f34).callable fun M w vs hG hI hr => ?_
  rcases hr with ⟨h, _⟩ | ⟨_, v, ws, rfl, hv, hn⟩
  · cases h
  rcases hn with ⟨h, _⟩ | ⟨_, v2, ws, rfl, hv2, hn⟩
  · cases h
  obtain ⟨_, rfl⟩ := hn
  obtain ⟨_, hv2⟩ := hv2
  obtain rfl : v2 = .string sep := by simpa using hv2
  obtain ⟨a, n, cap, ⟨_, hv⟩, hn, hnc, hcap, _, hrow⟩ := hv
  obtain rfl : v = .slice a n cap := by simpa using hv
  obtain rfl : n = l.length := by have : (n : Int) = (l.length : Int) := hn; omega
  rcases Nat.eq_zero_or_pos l.length with h0 | h0
  · have e : l = [] := List.length_eq_zero_iff.1 h0
    subst e
    refine (Tryd.strings_Join_none a cap sep w).mono ?_
    rintro e w' ⟨rfl, rfl⟩
    exact ⟨_, rfl, RowKit.Below.refl _ _, by simp, by simp [joinB, Lib.join_nil]⟩
  · obtain ⟨b, base, rfl, hr⟩ := hrow h0
    have hcell : ∀ (j : Nat) x, l[j]? = some x → w.cell? ⟨b, base + j, none⟩ = some (.string x) := by
      intro j x hx
      have hj : j < l.length := (List.getElem?_eq_some_iff.1 hx).1
      obtain ⟨cs, c1, ⟨_, c2⟩, c3⟩ := hr j hj
      have := c3 0 (by omega)
      rw [Nat.mul_one, Nat.add_zero, c2] at this
      refine hI.mem _ _ _ (this.trans ?_)
      show some (Value.string (List.getD (α := ByteArray) l j ByteArray.empty)) = some (Value.string x)
      rw [List.getD_eq_getElem?_getD, hx]; rfl
    have hb : b < w.heap.size := by
      obtain ⟨x, hx⟩ : ∃ x, l[0]? = some x := ⟨l[0], by simp [h0]⟩
      exact cell_lt (hcell 0 x hx)
    refine (Tryd.strings_Join b base cap l sep w hcell hb h1 hnc (by simpa [joinB, ByteArray.size] using h2)).mono ?_
    rintro e w' ⟨rfl, hw⟩
    exact ⟨_, rfl, hw, by simp, rfl⟩
noncomputable def withLib (F : Table) : Table := addS 33 (.cons (.int .i64) .nil) (fun n => (.str fun _ => itoaB (n ()), [fun _ => 0 ≤ n () ∧ n () < itoaLim]))
  (addS 34 (.cons (.slice 1 .str) (.cons .str .nil)) (fun l s => (.str fun _ => joinB (l ()) (s ()), [fun _ => List.length (α := ByteArray) (l ()) ≤ 140737488355328 ∧ (joinB (l ()) (s ())).size ≤ 140737488355328])) F)
theorem withLib_ok {F : Table} (h : TableOK Tryd.prog G0 F) : TableOK Tryd.prog G0 (withLib F) :=
  addS_ok (⟨Tryd.func33, rfl, rfl, rfl, ⟨rfl, rfl⟩, ok _⟩ : FN 33 Tryd.f33).callable (fun n h => itoa_ok (n ()) h.1.1 h.1.2) (addS_ok (⟨Tryd.func34, rfl, rfl, rfl, ⟨rfl, rfl⟩, ok _⟩ : FN 34 Tryd.f34).callable (fun l s h => join_ok (l ()) (s ()) h.1.1 h.1.2) h)
end Go.Proofs.YtdikfhjpnfffnabDoor
