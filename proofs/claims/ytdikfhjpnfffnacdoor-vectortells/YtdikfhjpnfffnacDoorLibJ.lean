/- GO's LIBRARY by the shelf's contracts: what joins texts. -/
import Derived.Test.YtdikfhjpnfffnacDoorBase
import Derived.Test.YtdikfhjpnfffnacDoorShelf
import Derived.Test.YtdikfhjpnfffnacDoorGd
set_option maxRecDepth 2000
set_option linter.unusedVariables false
set_option linter.unusedSimpArgs false
set_option linter.unusedVariables false
set_option linter.unusedSimpArgs false
namespace Go.Proofs.YtdikfhjpnfffnacDoor
open Go Go.Abs Go.Proofs
theorem join_ok (l : List ByteArray) (sep : ByteArray) (h1 : l.length ≤ 140737488355328) (h2 : (joinB l sep).size ≤ 140737488355328) : PF 33 (.cons (Sh.mkL 1 .str fun _ => l) (.cons (.str fun _ => sep) .nil)) (.str fun _ => joinB l sep) := by
  refine PFun.of_below (⟨Tryd.func33, rfl, rfl, rfl, ⟨rfl, rfl⟩, ok _⟩ : FN 33 Tryd.f33).callable fun M w vs hG hI hr => ?_
  rcases hr with ⟨h, _⟩ | ⟨_, v, ws, rfl, hv, hn⟩
  · cases h
  rcases hn with ⟨h, _⟩ | ⟨_, v2, ws, rfl, hv2, hn⟩
  · cases h
  obtain ⟨_, rfl⟩ := hn
  obtain ⟨_, hv2⟩ := hv2
  obtain rfl : v2 = .string sep := by simpa using hv2
  obtain ⟨a, n, cap, ⟨_, hv⟩, hn, hnc, hcap, _, hrow⟩ := hv
  obtain rfl : v = .slice a n cap := by simpa using hv
  obtain rfl : n = l.length := by have : (n : Int) = (l.length : Int) := hn; omega
  rcases Nat.eq_zero_or_pos l.length with h0 | h0
  · have e : l = [] := List.length_eq_zero_iff.1 h0
    subst e
    refine (Tryd.strings_Join_none a cap sep w).mono ?_
    rintro e w' ⟨rfl, rfl⟩
    exact ⟨_, rfl, RowKit.Below.refl _ _, by simp, by simp [joinB, Lib.join_nil]⟩
  · obtain ⟨b, base, rfl, hr⟩ := hrow h0
    have hcell : ∀ (j : Nat) x, l[j]? = some x → w.cell? ⟨b, base + j, none⟩ = some (.string x) := by
      intro j x hx
      have hj : j < l.length := (List.getElem?_eq_some_iff.1 hx).1
      obtain ⟨cs, c1, ⟨_, c2⟩, c3⟩ := hr j hj
      have := c3 0 (by omega)
      rw [Nat.mul_one, Nat.add_zero, c2] at this
      refine hI.mem _ _ _ (this.trans ?_)
      show some (Value.string (List.getD (α := ByteArray) l j ByteArray.empty)) = some (Value.string x)
      rw [List.getD_eq_getElem?_getD, hx]; rfl
    have hb : b < w.heap.size := by
      obtain ⟨x, hx⟩ : ∃ x, l[0]? = some x := ⟨l[0], by simp [h0]⟩
      exact cell_lt (hcell 0 x hx)
    refine (Tryd.strings_Join b base cap l sep w hcell hb h1 hnc (by simpa [joinB, ByteArray.size] using h2)).mono ?_
    rintro e w' ⟨rfl, hw⟩
    exact ⟨_, rfl, hw, by simp, rfl⟩
end Go.Proofs.YtdikfhjpnfffnacDoor
