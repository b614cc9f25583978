/- A part of what the walks of this claim stand on. -/
import Derived.Test.YtpbjcabecalpaaaGreatDoorWae
import Derived.Test.YtpbjcabecalpaaaGreatDoorShelf
import Derived.Test.YtpbjcabecalpaaaGreatDoorGac
import Derived.WalkSmall
import Derived.Lib.SplitLaws
import Derived.Test.YtpbjcabecalpaaaGreatDoorWaf
set_option maxRecDepth 2000
set_option linter.unusedVariables false
set_option linter.unusedSimpArgs false
namespace Go.Proofs.YtpbjcabecalpaaaGreatDoor
open Go Go.Abs Go.Proofs
theorem join_ok (l : List ByteArray) (sep : ByteArray) (h1 : l.length <= 140737488355328) (h2 : (joinB l sep).size <= 140737488355328) : PF 31 (.cons (Sh.mkL 1 .str fun _ => l) (.cons (.str fun _ => sep) .nil)) (.str fun _ => joinB l sep) := by
 refine PFun.of_below qf31.callable fun M w vs hG hI hr => ?_
 rcases hr with ⟨h, _⟩ | ⟨_, v, ws, rfl, hv, hn⟩
 ·cases h
 rcases hn with ⟨h, _⟩ | ⟨_, v2, ws, rfl, hv2, hn⟩
 ·cases h
 obtain ⟨_, rfl⟩ := hn
 obtain ⟨_, hv2⟩ := hv2
 obtain rfl : v2 = .string sep := by simpa using hv2
 obtain ⟨a, n, cap, ⟨_, hv⟩, hn, hnc, hcap, _, hrow⟩ := hv
 obtain rfl : v = .slice a n cap := by simpa using hv
 obtain rfl : n = l.length := by have : (n : Int) = (l.length : Int) := hn; omega
 rcases Nat.eq_zero_or_pos l.length with h0 | h0
 ·have e : l = [] := List.length_eq_zero_iff.1 h0
  subst e
  refine (Tryz.strings_Join_none a cap sep w).mono ?_
  rintro e w' ⟨rfl, rfl⟩
  exact ⟨_, rfl, RowKit.Below.refl _ _, by simp, by simp [joinB, Lib.join_nil]⟩
 ·obtain ⟨b, base, rfl, hr⟩ := hrow h0
  have hcell : ∀ (j : Nat) x, l[j]? = some x -> w.cell? ⟨b, base + j, none⟩ = some (.string x) := by
   intro j x hx
   have hj : j < l.length := (List.getElem?_eq_some_iff.1 hx).1
   obtain ⟨cs, c1, ⟨_, c2⟩, c3⟩ := hr j hj
   have := c3 0 (by omega)
   rw [Nat.mul_one, Nat.add_zero, c2] at this
   refine hI.mem _ _ _ (this.trans ?_)
   show some (Value.string (List.getD (α := ByteArray) l j ByteArray.empty)) = some (Value.string x)
   rw [List.getD_eq_getElem?_getD, hx]; rfl
  have hb : b < w.heap.size := by
   obtain ⟨x, hx⟩ : ∃ x, l[0]? = some x := ⟨l[0], by simp [h0]⟩
   exact cell_lt (hcell 0 x hx)
  refine (Tryz.strings_Join b base cap l sep w hcell hb h1 hnc (by simpa [joinB, ByteArray.size] using h2)).mono ?_
  rintro e w' ⟨rfl, hw⟩
  exact ⟨_, rfl, hw, by simp, rfl⟩
end Go.Proofs.YtpbjcabecalpaaaGreatDoor
namespace Go.Abs
variable {P : Program} {G : Gs}
theorem PFun.of_news {f : Nat} {args r : PV} (hc : Callable P f)
  (h : ∀ (M : Mem) (w : World) (vs : List Value), GOK G M -> Inv M noNames none0 w -> rel M args noNames .vals vs -> Calls P f vs.toArray w fun e w' => ∃ v, e = .returned v /\ RowKit.Below w.heap.size w w' /\ ∀ M' : Mem, (∀ b i x, w.heap.size <= b -> w'.cell? ⟨b, i, none⟩ = some x -> M' b i = some x) -> M.le M' -> rel M' r noNames .val [v]) : PFun P G f args r := by
 refine ⟨hc, fun M w vs hG hI hr => (h M w vs hG hI hr).mono ?_⟩
 rintro e w' ⟨v, rfl, hb, hv⟩
 have hlt : ∀ b i x, M b i = some x -> b < w.heap.size := fun b i x hm => hI.mem_lt hm
 have hle : M.le ⟨fun b i => if b < w.heap.size then M b i else w'.cell? ⟨b, i, none⟩, M.stat⟩ := ⟨fun b i x hm => by show (if b < w.heap.size then M b i else _) = some x; rw [if_pos (hlt b i x hm)]; exact hm, fun _ _ h => h⟩
 refine ⟨⟨fun b i => if b < w.heap.size then M b i else w'.cell? ⟨b, i, none⟩, M.stat⟩, noNames, v, none0, rfl, ⟨⟨fun b i v hm => ?_, fun id o ho => (by cases ho), fun id id' o o' ho => (by cases ho), fun id id' o o' ho => (by cases ho), fun b o ho => ⟨(hb.block b (lt_of_get (hI.stat b o ho).1)).trans (hI.stat b o ho).1, fun ⟨_, _, h, _⟩ => (by cases h)⟩⟩, hle, fun _ _ => rfl, hb.os, hb.tape, hb.output, hb.size, fun b hlt _ => hb.block b hlt, fun b ho => .inr ho, fun b i h1 h2 => ?_, rfl⟩, hv _ (fun b i x hb' hx => by show (if b < w.heap.size then M b i else _) = some x; rw [if_neg (by omega)]; exact hx) hle⟩
 ·have hm : (if b < w.heap.size then M b i else w'.cell? ⟨b, i, none⟩) = some v := hm
  by_cases hlt : b < w.heap.size
  ·rw [if_pos hlt] at hm
   rw [cell_of_heap (hb.block b hlt)]; exact hI.mem b i v hm
  ·rw [if_neg hlt] at hm; exact hm
 ·have h1 : (if b < w.heap.size then M b i else w'.cell? ⟨b, i, none⟩) ≠ none := h1
  by_cases hlt : b < w.heap.size
  ·rw [if_pos hlt, h2] at h1; exact absurd rfl h1
  ·exact .inl (by omega)
end Go.Abs
namespace Go.Proofs.YtpbjcabecalpaaaGreatDoor
open Go Go.Abs Go.Proofs
theorem maxLen {M : Mem} {w : World} {g} (hG : GOK G0 M) (hI : Inv M noNames g w) : ∃ m, w.cell? ⟨0, 0, none⟩ = some (.int .i64 m) := by
 obtain ⟨cs, t, fr, m, e, e2⟩ := hG.2.1 0 (by kernel_rfl)
 refine ⟨m, ?_⟩
 have := (hI.stat _ _ e).1
 simp [World.cell?, this, e2]
def cutB (s sep : ByteArray) : ByteArray × ByteArray × Bool := (⟨(Lib.cut s.data.toList sep.data.toList).1.toArray⟩, ⟨(Lib.cut s.data.toList sep.data.toList).2.1.toArray⟩, (Lib.cut s.data.toList sep.data.toList).2.2)
theorem two_str {M : Mem} {s sep : ByteArray} {vs : List Value} (hr : rel M (.cons (.str fun _ => s) (.cons (.str fun _ => sep) .nil)) noNames .vals vs) : vs = [.string s, .string sep] := by
 rcases hr with ⟨h, _⟩ | ⟨_, v, ws, rfl, hv, hn⟩
 ·cases h
 rcases hn with ⟨h, _⟩ | ⟨_, v2, ws, rfl, hv2, hn⟩
 ·cases h
 obtain ⟨_, rfl⟩ := hn
 obtain ⟨_, hv⟩ := hv
 obtain ⟨_, hv2⟩ := hv2
 obtain rfl : v = .string s := by simpa using hv
 obtain rfl : v2 = .string sep := by simpa using hv2
 rfl
theorem cut_ok (s sep : ByteArray) (hs : s.size < 4294967281) : PF 43 (.cons (.str fun _ => s) (.cons (.str fun _ => sep) .nil)) (.tuple (.cons (.str fun _ => (cutB s sep).1) (.cons (.str fun _ => (cutB s sep).2.1) (.cons (.bool fun _ => (cutB s sep).2.2) .nil)))) := by
 refine PFun.of_news qf43.callable fun M w vs hG hI hr => ?_
 obtain rfl := two_str hr
 obtain ⟨m, hm⟩ := maxLen hG hI
 refine (Tryz.strings_Cut s sep m w hs hm).mono ?_
 rintro e w' ⟨rfl, n, rfl⟩
 refine ⟨_, rfl, below_drewN (RowKit.Below.refl _ _) n, fun M' _ _ => ?_⟩
 refine ⟨rfl, [.string (cutB s sep).1, .string (cutB s sep).2.1, .bool (cutB s sep).2.2], rfl, .inr ⟨rfl, _, _, rfl, ⟨by simp, rfl⟩, .inr ⟨rfl, _, _, rfl, ⟨by simp, rfl⟩, .inr ⟨rfl, _, _, rfl, ⟨by simp, rfl⟩, by simp, rfl⟩⟩⟩⟩
theorem split_ok (s sep : ByteArray) (hs : s.size < 4294967281) (h1 : 1 <= sep.size) : PF 33 (.cons (.str fun _ => s) (.cons (.str fun _ => sep) .nil)) (Sh.mkL 1 .str fun _ => Lib.splitB sep 0 (Lib.countB s sep) s) := by
 refine PFun.of_news qf33.callable fun M w vs hG hI hr => ?_
 obtain rfl := two_str hr
 obtain ⟨m, hm⟩ := maxLen hG hI
 refine (Tryz.strings_Split s sep m w hs hm h1).mono ?_
 rintro e w' ⟨rfl, rfl⟩
 have hlen := Lib.splitB_all sep h1 0 _ s rfl
 have hcl := Lib.countB_le sep h1 _ s (Nat.le_refl _)
 refine ⟨_, rfl, (RowKit.Below.refl _ _).alloc (Nat.le_refl _) _, fun M' hM' _ => ⟨_, _, _, ⟨by simp, rfl⟩, ?_, Nat.le_refl _, ?_, fun id h => (by cases h), fun _ => ⟨_, 0, rfl, fun j hj => ?_⟩⟩⟩
 ·show ((Lib.countB s sep + 1 : Nat) : Int) = ((Lib.splitB sep 0 (Lib.countB s sep) s).length : Int)
  rw [hlen]
 ·have : (4294967282 : Nat) <= Go.maxLen := by decide
  omega
 ·have hx : (Lib.splitB sep 0 (Lib.countB s sep) s)[j]? = some ((Lib.splitB sep 0 (Lib.countB s sep) s).getD j ByteArray.empty) := by
   rw [List.getD_eq_getElem?_getD, List.getElem?_eq_getElem (by omega)]; rfl
  refine ⟨[.string ((Lib.splitB sep 0 (Lib.countB s sep) s).getD j ByteArray.empty)], rfl, ⟨by simp, rfl⟩, fun q hq => ?_⟩
  obtain rfl : q = 0 := by omega
  refine hM' _ _ _ (Nat.le_refl _) ?_
  rw [show 0 + j * 1 + 0 = j by omega]
  unfold World.cell?
  rw [World.alloc_heap_new]
  show ((Lib.splitB sep 0 (Lib.countB s sep) s).map Value.string).toArray[j]? = _
  rw [List.getElem?_toArray, List.getElem?_map, hx]
  rfl
def vP (c m h : Int) : PV := .agg (.cons (.int .i64 fun _ => c) (.cons (.int .i64 fun _ => m) (.cons (.int .i64 fun _ => h) .nil)))
def shV : Sh := .agg (.cons (.int .i64) (.cons (.int .i64) (.cons (.int .i64) .nil)))
theorem parts_okv (c m h : Int) : PF 84 (.cons (vP c m h) .nil) (.arrI .i64 3 fun _ => [c, m, h]) := by
 refine qf84.tree (mkO_ok F0_ok) false 40 rfl ?_
 conv => arg 5; cbv
 exact ⟨rfl, rfl, rfl, rfl⟩
theorem of_okv (c m h : Int) : PF 147 (.cons (.arrI .i64 3 fun _ => [c, m, h]) .nil) (vP c m h) := by
 refine qf147.tree (mkO_ok F0_ok) false 40 rfl ?_
 conv => arg 5; cbv
 exact ⟨rfl, ⟨rfl, rfl⟩, ⟨rfl, rfl⟩, ⟨rfl, rfl⟩, rfl⟩
theorem names_ok : PF 85 .nil (.arrS 3 fun _ => [toB sCpu, toB sMem, toB sHug]) := by
 refine qf85.tree (mkO_ok F0_ok) false 40 rfl ?_
 conv => arg 5; cbv
 exact ⟨rfl, rfl, rfl⟩
theorem fits_okv (r n : Int) : PF 104 (.cons (i64 r) (.cons (i64 n) .nil)) (.bool fun _ => decide (0 <= n /\ n <= if r = 0 then 1099511627776 else 1125899906842624)) := by
 refine qf104.tree (mkO_ok F0_ok) false 40 rfl ?_
 conv => arg 5; cbv
 refine ⟨fun h => ⟨fun g => ⟨rfl, ?_⟩, fun g => ⟨rfl, ?_⟩⟩, fun h => ⟨fun g => ⟨rfl, ?_⟩, fun g => ⟨rfl, ?_⟩⟩⟩
 ·have h := beqT h
  (replace g := of_decide_eq_true g); (try dsimp only at g); (try simp only [cast_fold, oN] at g)
  exact decide_eq_decide.2 (by rw [if_pos h]; exact ⟨fun k => ⟨g, k⟩, fun k => k.2⟩)
 ·(replace g := of_decide_eq_false g); (try dsimp only at g); (try simp only [cast_fold, oN] at g)
  exact decide_eq_false fun k => g k.1
 ·have h := beqF h
  (replace g := of_decide_eq_true g); (try dsimp only at g); (try simp only [cast_fold, oN] at g)
  exact decide_eq_decide.2 (by rw [if_neg h]; exact ⟨fun k => ⟨g, k⟩, fun k => k.2⟩)
 ·(replace g := of_decide_eq_false g); (try dsimp only at g); (try simp only [cast_fold, oN] at g)
  exact decide_eq_false fun k => g k.1
theorem and63 {a b : Int} (ha : 0 <= a /\ a < 9223372036854775808) : 0 <= bitAnd .i64 a b := by
 unfold bitAnd
 have h : (BitVec.ofInt 64 a &&& BitVec.ofInt 64 b).toNat <= (BitVec.ofInt 64 a).toNat := by
  rw [BitVec.toNat_and]; exact Nat.and_le_left
 have h2 : (BitVec.ofInt 64 a).toNat < 9223372036854775808 := by
  rw [BitVec.toNat_ofInt]; omega
 show 0 <= IntKind.i64.wrap ((BitVec.ofInt 64 a &&& BitVec.ofInt 64 b).toNat : Int)
 rw [IntWalk.i64_in _ ⟨by omega, by omega⟩]; omega
theorem xor63 {a b : Int} (ha : 0 <= a /\ a < 9223372036854775808) (hb : 0 <= b /\ b < 9223372036854775808) : 0 <= bitXor .i64 a b /\ bitXor .i64 a b < 9223372036854775808 := by
 unfold bitXor
 have h : (BitVec.ofInt 64 a ^^^ BitVec.ofInt 64 b).toNat < 2 ^ 63 := by
  rw [BitVec.toNat_xor]
  refine Nat.xor_lt_two_pow ?_ ?_
  ·rw [BitVec.toNat_ofInt]; omega
  ·rw [BitVec.toNat_ofInt]; omega
 show 0 <= IntKind.i64.wrap ((BitVec.ofInt 64 a ^^^ BitVec.ofInt 64 b).toNat : Int) /\ IntKind.i64.wrap ((BitVec.ofInt 64 a ^^^ BitVec.ofInt 64 b).toNat : Int) < 9223372036854775808
 rw [IntWalk.i64_in _ ⟨by omega, by omega⟩]; omega
theorem wrap_iu (n : Int) : IntKind.i64.wrap (IntKind.u64.wrap n) = IntKind.i64.wrap n := by
 have h1 : IntKind.u64.wrap n = n % 18446744073709551616 := rfl
 rw [IntKind.wrap_i64, IntKind.wrap_i64, h1]; omega
theorem cadd_ok (a b : Int) (ha : 0 <= a /\ a <= 4611686018427387903) (hb : 0 <= b /\ b <= 4611686018427387903) : PF 156 (.cons (i64 a) (.cons (i64 b) .nil)) (.tuple (.cons (.int .i64 fun _ => a + b) (.cons (.bool fun _ => true) .nil))) := by
 refine qf156.tree (mkO_ok F0_ok) false 40 rfl ?_
 conv => arg 5; cbv
 have hw : IntKind.i64.wrap (IntKind.u64.wrap (IntKind.u64.wrap a + IntKind.u64.wrap b)) = a + b := by
  rw [wrap_iu, IntWalk.u64_in a ⟨by omega, by omega⟩, IntWalk.u64_in b ⟨by omega, by omega⟩, IntWalk.i64_in _ ⟨by omega, by omega⟩]
 rw [hw]
 have h1 := and63 (b := bitXor .i64 b (a + b)) (xor63 (a := a) (b := a + b) (by omega) (by omega))
 refine ⟨fun h => ?_, fun h => ⟨rfl, ⟨rfl, rfl⟩, rfl, rfl⟩⟩
 (replace h := of_decide_eq_true h); (try dsimp only at h); (try simp only [cast_fold, oN] at h)
 omega
noncomputable def Fh1 : Table := addS 84 (.cons shV .nil) (fun c m h => (.arrI .i64 3 fun _ => [c (), m (), h ()], [])) (addS 85 .nil (.arrS 3 fun _ => [toB sCpu, toB sMem, toB sHug], [])
 (addS 104 (.cons (.int .i64) (.cons (.int .i64) .nil)) (fun r n => (.bool fun _ => decide (0 <= n () /\ n () <= if r () = 0 then 1099511627776 else 1125899906842624), []))
 (addS 147 (.cons (.arrI .i64 3) .nil) (fun l => (.agg (.cons (.int .i64 fun _ => (l ()).getD 0 0) (.cons (.int .i64 fun _ => (l ()).getD 1 0) (.cons (.int .i64 fun _ => (l ()).getD 2 0) .nil))), []))
 (addS 156 (.cons (.int .i64) (.cons (.int .i64) .nil)) (fun a b => (.tuple (.cons (.int .i64 fun _ => a () + b ()) (.cons (.bool fun _ => true) .nil)), [fun _ => (0 <= a () /\ a () <= 4611686018427387903) /\ 0 <= b () /\ b () <= 4611686018427387903]))
 Fg6))))
theorem list3 {l : List Int} (h : l.length = 3) : l = [l.getD 0 0, l.getD 1 0, l.getD 2 0] := by
 match l, h with
 | [a, b, c], _ => rfl
theorem Fh1_ok : TableOK Tryz.prog G0 Fh1 := addS_ok qf84.callable (fun c m h _ => parts_okv (c ()) (m ()) (h ())) (addS_ok qf85.callable (fun _ => names_ok)
 (addS_ok qf104.callable (fun r n _ => fits_okv (r ()) (n ())) (addS_ok qf147.callable (fun l hl _ => by
  have := of_okv ((l ()).getD 0 0) ((l ()).getD 1 0) ((l ()).getD 2 0)
  rwa [<- list3 hl] at this)
 (addS_ok qf156.callable (fun a b c => cadd_ok (a ()) (b ()) c.1.1 c.1.2) Fg6_ok))))
theorem and_huge {h : Int} (h0 : 0 <= h /\ h <= 1125899906842624) : bitAnd .i64 h 2097151 = h % 2097152 := by
 obtain ⟨n, rfl⟩ : ∃ n : Nat, h = n := ⟨h.toNat, by omega⟩
 unfold bitAnd
 have e : (BitVec.ofInt 64 (n : Int) &&& BitVec.ofInt 64 2097151).toNat = n % 2097152 := by
  rw [BitVec.toNat_and, ofInt_nat, BitVec.toNat_ofNat, show (BitVec.ofInt 64 2097151).toNat = 2097151 from rfl, Nat.mod_eq_of_lt (by omega)]
  exact Nat.and_two_pow_sub_one_eq_mod n 21
 show IntKind.i64.wrap ((BitVec.ofInt 64 (n : Int) &&& BitVec.ofInt 64 2097151).toNat : Int) = _
 rw [e, IntWalk.i64_in _ ⟨by omega, by omega⟩]
 omega
theorem vRight_iff {c m h : Int} : vRight c m h = true ↔ (0 <= c /\ c <= 1099511627776) /\ (0 <= m /\ m <= 1125899906842624) /\ (0 <= h /\ h <= 1125899906842624) /\ h % 2097152 = 0 := by
 unfold vRight; rw [decide_eq_true_eq]; omega
theorem vRight_no {c m h : Int} (k : ¬ ((0 <= c /\ c <= 1099511627776) /\ (0 <= m /\ m <= 1125899906842624) /\ (0 <= h /\ h <= 1125899906842624) /\ h % 2097152 = 0)) : vRight c m h = false := by
 rw [Bool.eq_false_iff]; exact fun hc => k (vRight_iff.1 hc)
theorem right_okv (c m h : Int) : PF 80 (.cons (vP c m h) .nil) (.bool fun _ => vRight c m h) := by
 refine qf80.treeS (mkO_ok Fh1_ok) true 40 (.yes (.both .any (.yes (.both .any (.yes (.both .any (.no .any))))))) rfl ?_
 conv => arg 5; cbv
 have nt : ∀ {p : Prop} [Decidable p], (!decide p) = true -> ¬ p := fun h => by simpa using h
 have nf : ∀ {p : Prop} [Decidable p], (!decide p) = false -> p := fun h => by simpa using h
 refine ⟨⟨by decide, trivial⟩, ⟨by decide, trivial⟩, fun g => ⟨rfl, ?_⟩, fun g => ⟨⟨by decide, trivial⟩, ⟨by decide, trivial⟩, fun g2 => ⟨rfl, ?_⟩, fun g2 => ⟨⟨by decide, trivial⟩, ⟨by decide, trivial⟩, fun g3 => ⟨rfl, ?_⟩, fun g3 => ⟨⟨by decide, trivial⟩, rfl, ?_⟩⟩⟩⟩
 ·have g : ¬ (0 <= c /\ c <= 1099511627776) := nt g
  exact vRight_no fun k => g k.1
 ·have g2 : ¬ (0 <= m /\ m <= 1125899906842624) := nt g2
  exact vRight_no fun k => g2 k.2.1
 ·have g3 : ¬ (0 <= h /\ h <= 1125899906842624) := nt g3
  exact vRight_no fun k => g3 k.2.2.1
 ·have g : (0 <= c /\ c <= 1099511627776) := nf g
  have g2 : (0 <= m /\ m <= 1125899906842624) := nf g2
  have g3 : (0 <= h /\ h <= 1125899906842624) := nf g3
  show (bitAnd .i64 h 2097151 == 0) = vRight c m h
  rw [and_huge g3, Bool.eq_iff_iff, vRight_iff, beq_iff_eq]
  exact ⟨fun k => ⟨g, g2, g3, k⟩, fun k => k.2.2.2⟩
theorem at_okv (c m h r : Int) : PF 102 (.cons (vP c m h) (.cons (i64 r) .nil)) (.int .i64 fun _ => if r = 0 then c else if r = 1 then m else if r = 2 then h else 0) := by
 refine qf102.tree (mkO_ok Fh1_ok) false 40 rfl ?_
 conv => arg 5; cbv
 refine ⟨fun g => ⟨rfl, rfl, ?_⟩, fun g => ⟨fun g2 => ⟨rfl, rfl, ?_⟩, fun g2 => ⟨⟨?_, trivial⟩, rfl, rfl, ?_⟩⟩⟩
 ·(replace g := of_decide_eq_true g); (try dsimp only at g); (try simp only [cast_fold, oN] at g)
  dsimp only
  rw [if_neg (by omega), if_neg (by omega), if_neg (by omega)]
 ·(replace g2 := of_decide_eq_true g2); (try dsimp only at g2); (try simp only [cast_fold, oN] at g2)
  dsimp only
  rw [if_neg (by omega), if_neg (by omega), if_neg (by omega)]
 ·(replace g := of_decide_eq_false g); (try dsimp only at g); (try simp only [cast_fold, oN] at g)
  (replace g2 := of_decide_eq_false g2); (try dsimp only at g2); (try simp only [cast_fold, oN] at g2)
  exact ⟨(by (try dsimp only); (try simp only [cast_fold, oN]); omega), (by (try dsimp only); (try simp only [cast_fold, oN]); omega)⟩
 ·(replace g := of_decide_eq_false g); (try dsimp only at g); (try simp only [cast_fold, oN] at g)
  (replace g2 := of_decide_eq_false g2); (try dsimp only at g2); (try simp only [cast_fold, oN] at g2)
  have : r = 0 \/ r = 1 \/ r = 2 := by omega
  rcases this with rfl | rfl | rfl <;> rfl
theorem with_okv (c m h r n : Int) : PF 122 (.cons (vP c m h) (.cons (i64 r) (.cons (i64 n) .nil))) (vP (if r = 0 then n else c) (if r = 1 then n else m) (if r = 2 then n else h)) := by
 refine qf122.tree (mkO_ok Fh1_ok) false 40 rfl ?_
 conv => arg 5; cbv
 refine ⟨fun g => ⟨rfl, ⟨rfl, ?_⟩, ⟨rfl, ?_⟩, ⟨rfl, ?_⟩, rfl⟩, fun g => ⟨fun g2 => ⟨rfl, ⟨rfl, ?_⟩, ⟨rfl, ?_⟩, ⟨rfl, ?_⟩, rfl⟩, fun g2 => ⟨⟨?_, ?_, trivial⟩, rfl, ?_⟩⟩⟩
 all_goals first | ((replace g := of_decide_eq_true g); (try dsimp only at g); (try simp only [cast_fold, oN] at g)
                    exact (if_neg (by omega)).symm) | skip
 all_goals first | ((replace g2 := of_decide_eq_true g2); (try dsimp only at g2); (try simp only [cast_fold, oN] at g2)
                    exact (if_neg (by omega)).symm) | skip
 all_goals
  (replace g := of_decide_eq_false g); (try dsimp only at g); (try simp only [cast_fold, oN] at g)
  (replace g2 := of_decide_eq_false g2); (try dsimp only at g2); (try simp only [cast_fold, oN] at g2)
 ·exact ⟨(by (try dsimp only); (try simp only [cast_fold, oN]); omega), (by (try dsimp only); (try simp only [cast_fold, oN]); omega)⟩
 ·exact ⟨(by (try dsimp only); (try simp only [cast_fold, oN]); omega), (by (try dsimp only); (try simp only [cast_fold, oN]); omega)⟩
 ·have : r = 0 \/ r = 1 \/ r = 2 := by omega
  rcases this with rfl | rfl | rfl <;> exact ⟨⟨rfl, rfl⟩, ⟨rfl, rfl⟩, ⟨rfl, rfl⟩, rfl⟩
noncomputable def Fh2 : Table := addS 80 (.cons shV .nil) (fun c m h => (.bool fun _ => vRight (c ()) (m ()) (h ()), []))
 (addS 102 (.cons shV (.cons (.int .i64) .nil)) (fun c m h r => (.int .i64 fun _ => if r () = 0 then c () else if r () = 1 then m () else if r () = 2 then h () else 0, []))
 (addS 122 (.cons shV (.cons (.int .i64) (.cons (.int .i64) .nil))) (fun c m h r n => (.agg (.cons (.int .i64 fun _ => if r () = 0 then n () else c ()) (.cons (.int .i64 fun _ => if r () = 1 then n () else m ()) (.cons (.int .i64 fun _ => if r () = 2 then n () else h ()) .nil))), [])) Fh1))
theorem Fh2_ok : TableOK Tryz.prog G0 Fh2 := addS_ok qf80.callable (fun c m h _ => right_okv (c ()) (m ()) (h ())) (addS_ok qf102.callable (fun c m h r _ => at_okv (c ()) (m ()) (h ()) (r ())) (addS_ok qf122.callable (fun c m h r n _ => with_okv (c ()) (m ()) (h ()) (r ()) (n ())) Fh1_ok))
def zV : PV := vP 0 0 0
def okAdd (a b c d e f : Int) : Bool := vRight a b c && vRight d e f && vRight (a + d) (b + e) (c + f)
def vAdd (a b c d e f : Int) : PV := .tuple (.cons (.agg (.cons (.int .i64 fun _ => if okAdd a b c d e f = true then a + d else 0) (.cons (.int .i64 fun _ => if okAdd a b c d e f = true then b + e else 0) (.cons (.int .i64 fun _ => if okAdd a b c d e f = true then c + f else 0) .nil)))) (.cons (.bool fun _ => okAdd a b c d e f) .nil))
theorem vAdd_no {a b c d e f : Int} (h : okAdd a b c d e f = false) : impP (.tuple (.cons zV (.cons .ff .nil))) (vAdd a b c d e f) := by
 unfold vAdd
 rw [h]
 exact ⟨⟨⟨rfl, rfl⟩, ⟨rfl, rfl⟩, ⟨rfl, rfl⟩, rfl⟩, rfl, rfl⟩
theorem bothAdd_ok (a b c d e f : Int) : PF 155 (.cons (vP a b c) (.cons (vP d e f) (.cons (.func (.func 156) .nil .nil) .nil))) (vAdd a b c d e f) := by
 refine qf155.treeS (mkO_ok Fh2_ok) true 40 (.both .any (.both .any (.yes (.yes (.yes (.no .any)))))) rfl ?_
 conv => arg 5; cbv
 have w1 : IntKind.i64.wrap (0 + 1) = 1 := by decide
 have w2 : IntKind.i64.wrap (1 + 1) = 2 := by decide
 have w3 : IntKind.i64.wrap (2 + 1) = 3 := by decide
 simp only [w1, w2, w3]
 have hi : ∀ k : Int, 0 <= k /\ k < 3 -> 0 <= k /\ k < ((3 : Nat) : Int) := fun k h => h
 have i0 : 0 <= (0 : Int) /\ (0 : Int) < ((3 : Nat) : Int) := by decide
 have i1 : 0 <= (1 : Int) /\ (1 : Int) < ((3 : Nat) : Int) := by decide
 have i2 : 0 <= (2 : Int) /\ (2 : Int) < ((3 : Nat) : Int) := by decide
 refine ⟨fun g => ⟨rfl, vAdd_no ?_⟩, fun g => ⟨fun g2 => ⟨rfl, vAdd_no ?_⟩, fun g2 => ?_⟩⟩
 ·have g : vRight a b c = false := by simpa using g
  unfold okAdd; rw [g]; rfl
 ·have g2 : vRight d e f = false := by simpa using g2
  unfold okAdd; rw [g2, Bool.and_false]; rfl
 have g : vRight a b c = true := by simpa using g
 have g2 : vRight d e f = true := by simpa using g2
 have r1 := vRight_iff.1 g
 have r2 := vRight_iff.1 g2
 have k0 : (0 <= a /\ a <= 4611686018427387903) /\ 0 <= d /\ d <= 4611686018427387903 := by omega
 have k1 : (0 <= b /\ b <= 4611686018427387903) /\ 0 <= e /\ e <= 4611686018427387903 := by omega
 have k2 : (0 <= c /\ c <= 4611686018427387903) /\ 0 <= f /\ f <= 4611686018427387903 := by omega
 refine ⟨⟨(by show drawOK _ _ = true; decide +kernel), trivial⟩, ⟨by decide, trivial⟩, ⟨i0, i0, i0, i0, k0, i0, i0, (by show drawOK _ _ = true; decide +kernel), trivial⟩, ⟨by decide, trivial⟩, ⟨i1, i1, i1, i1, k1, i1, i1, (by show drawOK _ _ = true; decide +kernel), trivial⟩, ⟨by decide, trivial⟩, ⟨i2, i2, i2, i2, k2, i2, i2, (by show drawOK _ _ = true; decide +kernel), trivial⟩, ⟨by decide, trivial⟩, fun h => ⟨rfl, ?_⟩, fun h => ⟨rfl, vAdd_no ?_⟩⟩
 ·have h : vRight (a + d) (b + e) (c + f) = true := h
  have hok : okAdd a b c d e f = true := by unfold okAdd; rw [g, g2, h]; rfl
  unfold vAdd
  rw [hok]
  exact ⟨⟨⟨rfl, rfl⟩, ⟨rfl, rfl⟩, ⟨rfl, rfl⟩, rfl⟩, rfl, rfl⟩
 ·have h : vRight (a + d) (b + e) (c + f) = false := h
  unfold okAdd; rw [h, Bool.and_false]
noncomputable def Fh3 : Table := addS 155 (.cons shV (.cons shV (.cons (.fn 156) .nil))) (fun a b c d e f => (.tuple (.cons (.agg (.cons (.int .i64 fun _ => if okAdd (a ()) (b ()) (c ()) (d ()) (e ()) (f ()) = true then a () + d () else 0) (.cons (.int .i64 fun _ => if okAdd (a ()) (b ()) (c ()) (d ()) (e ()) (f ()) = true then b () + e () else 0) (.cons (.int .i64 fun _ => if okAdd (a ()) (b ()) (c ()) (d ()) (e ()) (f ()) = true then c () + f () else 0) .nil)))) (.cons (.bool fun _ => okAdd (a ()) (b ()) (c ()) (d ()) (e ()) (f ())) .nil)), [])) Fh2
theorem Fh3_ok : TableOK Tryz.prog G0 Fh3 := addS_ok qf155.callable (fun a b c d e f _ => bothAdd_ok (a ()) (b ()) (c ()) (d ()) (e ()) (f ())) Fh2_ok
theorem add_okv (a b c d e f : Int) : PF 129 (.cons (vP a b c) (.cons (vP d e f) .nil)) (vAdd a b c d e f) := by
 refine qf129.tree (mkO_ok Fh3_ok) false 40 rfl ?_
 conv => arg 5; cbv
 exact ⟨rfl, ⟨⟨rfl, rfl⟩, ⟨rfl, rfl⟩, ⟨rfl, rfl⟩, rfl⟩, rfl, rfl⟩
noncomputable def Fh4Add : Table := addS 129 (.cons shV (.cons shV .nil)) (fun a b c d e f => (.tuple (.cons (.agg (.cons (.int .i64 fun _ => if okAdd (a ()) (b ()) (c ()) (d ()) (e ()) (f ()) = true then a () + d () else 0) (.cons (.int .i64 fun _ => if okAdd (a ()) (b ()) (c ()) (d ()) (e ()) (f ()) = true then b () + e () else 0) (.cons (.int .i64 fun _ => if okAdd (a ()) (b ()) (c ()) (d ()) (e ()) (f ()) = true then c () + f () else 0) .nil)))) (.cons (.bool fun _ => okAdd (a ()) (b ()) (c ()) (d ()) (e ()) (f ())) .nil)), [])) Fh2
noncomputable def Fh4Sub : Table := Fh4Add
theorem Fh4Sub_ok : TableOK Tryz.prog G0 Fh4Sub := addS_ok qf129.callable (fun a b c d e f _ => add_okv (a ()) (b ()) (c ()) (d ()) (e ()) (f ())) Fh2_ok
noncomputable def Fh5 : Table := Fh4Sub
theorem Fh5_ok : TableOK Tryz.prog G0 Fh5 := Fh4Sub_ok
abbrev V3 := Int × Int × Int
def e1 (v : shV.val) : Int := v.1
def e2 (v : shV.val) : Int := v.2.1
def e3 (v : shV.val) : Int := v.2.2.1
def sumL : List shV.val -> V3 -> Option V3
 | [], x => some x
 | v :: l, x => if okAdd x.1 x.2.1 x.2.2 (e1 v) (e2 v) (e3 v) = true then sumL l (x.1 + e1 v, x.2.1 + e2 v, x.2.2 + e3 v) else none
def sumP (o : Option V3) : PV := .tuple (.cons (.agg (.cons (.int .i64 fun _ => (o.getD (0, 0, 0)).1) (.cons (.int .i64 fun _ => (o.getD (0, 0, 0)).2.1) (.cons (.int .i64 fun _ => (o.getD (0, 0, 0)).2.2) .nil)))) (.cons (.bool fun _ => o.isSome) .nil))
def smA (l : List shV.val) (i : Nat) : Env := [(11, .int .i64 fun _ => (i : Int)), (10, .int .i64 fun _ => (l.length : Int)), (9, .slice none 3 (fun _ => (l.length : Int)) fun j => shV.mk fun _ => l.getD (j ()).toNat shV.dflt), (4, .ptr 1 0), (2, .ptr 0 0)]
def smS (x : V3) : Store := [(0, .var zV), (1, .var (vP x.1 x.2.1 x.2.2))]
theorem sum_okv (l : List shV.val) (hl : l.length < 9223372036854775807) : PF 103 (.cons (Sh.mkL 3 shV fun _ => l) .nil) (sumP (sumL l (0, 0, 0))) := by
 refine qf103.tree (mkO_ok Fh5_ok) false 40 rfl ?_
 conv => arg 5; cbv
 refine run_inv (ι := Nat × V3) (fun x => l.length - x.1) (fun x => x.1 <= l.length /\ sumL (l.drop x.1) x.2 = sumL l (0, 0, 0)) (fun x => smA l x.1) (fun x => smS x.2) 2 (0, (0, 0, 0)) (fun i => i) (by rfl) (by rfl) ⟨Nat.zero_le _, rfl⟩ ?_ ⟨iR, iR, iR, iR, iR, trivial⟩ ⟨iR, iR, trivial⟩
 intro y hy ih
 obtain ⟨i, x⟩ := y
 have hi : i <= l.length := hy.1
 have he : sumL (l.drop i) x = sumL l (0, 0, 0) := hy.2
 have tn : ∀ n : Nat, ((n : Nat) : Int).toNat = n := fun n => Int.toNat_natCast n
 refine explore_ok (ok _) (mkO_ok Fh5_ok) (u := false) 20 _ rfl ?_
 conv => arg 5; cbv
 simp only [tn]
 refine ⟨fun g => ?_, fun g => ⟨rfl, ?_⟩⟩
 ·(replace g := of_decide_eq_true g); (try dsimp only at g); (try simp only [cast_fold, oN] at g)
  have hlt : i < l.length := by omega
  have hw : IntKind.i64.wrap ((i : Int) + 1) = ((i + 1 : Nat) : Int) := by rw [IntWalk.i64_in _ ⟨by omega, by omega⟩]; omega
  rw [List.drop_eq_getElem_cons hlt] at he
  have hg : l.getD i shV.dflt = l[i] := by rw [List.getD_eq_getElem?_getD, List.getElem?_eq_getElem hlt]; rfl
  rw [hg]
  have he : (if okAdd x.1 x.2.1 x.2.2 (e1 l[i]) (e2 l[i]) (e3 l[i]) = true then sumL (l.drop (i + 1)) (x.1 + e1 l[i], x.2.1 + e2 l[i], x.2.2 + e3 l[i]) else none) = sumL l (0, 0, 0) := he
  refine ⟨⟨⟨(by (try dsimp only); (try simp only [cast_fold, oN]); omega), g⟩, trivial⟩, fun g2 => ⟨rfl, ?_⟩, fun g2 => ?_⟩
  ·have g2 : ¬ okAdd x.1 x.2.1 x.2.2 (e1 l[i]) (e2 l[i]) (e3 l[i]) = true := by
    have g2 : (!okAdd x.1 x.2.1 x.2.2 (e1 l[i]) (e2 l[i]) (e3 l[i])) = true := g2
    simpa using g2
   rw [if_neg g2] at he
   rw [<- he]
   exact ⟨⟨⟨rfl, rfl⟩, ⟨rfl, rfl⟩, ⟨rfl, rfl⟩, rfl⟩, rfl, rfl⟩
  ·have g2 : okAdd x.1 x.2.1 x.2.2 (e1 l[i]) (e2 l[i]) (e3 l[i]) = true := by
    have g2 : (!okAdd x.1 x.2.1 x.2.2 (e1 l[i]) (e2 l[i]) (e3 l[i])) = false := g2
    simpa using g2
   rw [if_pos g2] at he
   exact ih (i + 1, (x.1 + e1 l[i], x.2.1 + e2 l[i], x.2.2 + e3 l[i])) (fun i => i) ⟨by show i + 1 <= l.length; omega, he⟩ (by show l.length - (i + 1) < l.length - i; omega) (by rfl) ⟨⟨rfl, hw⟩, iR, iR, iR, iR, trivial⟩ ⟨iR, ⟨⟨rfl, if_pos g2⟩, ⟨rfl, if_pos g2⟩, ⟨rfl, if_pos g2⟩, rfl⟩, trivial⟩
 ·(replace g := of_decide_eq_false g); (try dsimp only at g); (try simp only [cast_fold, oN] at g)
  have e : i = l.length := by omega
  rw [e, List.drop_length] at he
  rw [<- he]
  exact ⟨⟨⟨rfl, rfl⟩, ⟨rfl, rfl⟩, ⟨rfl, rfl⟩, rfl⟩, rfl, rfl⟩
theorem told_ok (r n : Int) (hr : 0 <= r /\ r < 3) (hn : 0 <= n /\ n <= 1125899906842624) : PF 86 (.cons (i64 r) (.cons (i64 n) .nil)) (.str fun _ => if r = 0 then toB (atext (n.toNat * 1000000)) else toB (btext (n.toNat * 1000000000))) := by
 refine qf86.tree (mkO_ok Fh5_ok) false 40 rfl ?_
 conv => arg 5; cbv
 have hn2 : n.toNat <= 1125899906842624 := by omega
 have h1 : n.toNat * 1000000 <= mostA := Nat.le_trans (Nat.mul_le_mul_right _ hn2) (by decide)
 have h2 : n.toNat * 1000000000 <= mostA := Nat.le_trans (Nat.mul_le_mul_right _ hn2) (by decide)
 have hW : mostA < W128 := by decide
 have c : 0 <= n /\ n <= 1152921504606846976 := by omega
 simp only [wN_of]
 refine ⟨fun g => ⟨⟨c, okW_of (Nat.lt_of_le_of_lt h1 hW), trivial⟩, rfl, ?_⟩, fun g => ⟨⟨c, okW_of (Nat.lt_of_le_of_lt h2 hW), trivial⟩, rfl, ?_⟩⟩
 ·have g := beqT g
  show atB2 _ = _
  rw [if_pos g]; exact if_pos h1
 ·have g := beqF g
  show btB _ = _
  rw [if_neg g]; exact if_pos h2
theorem toB_eq {l : List UInt8} {s : ByteArray} : toB l = s ↔ s.data.toList = l := by
 constructor
 ·rintro rfl; rfl
 ·intro h; rw [<- h, toB_data]
theorem named_ok (s : ByteArray) : PF 120 (.cons (.str fun _ => s) .nil) (.tuple (.cons (.int .i64 fun _ => if vIdx s.data.toList < 3 then (vIdx s.data.toList : Int) else 0) (.cons (.bool fun _ => decide (vIdx s.data.toList < 3)) .nil))) := by
 refine qf120.treeS (mkO_ok Fh5_ok) true 40 (.yes (.both .any (.yes (.both .any (.yes (.both .any (.no .any))))))) rfl ?_
 conv => arg 5; cbv
 have hv : ∀ k : Nat, k < 3 -> vIdx s.data.toList = k -> ∀ z : Int, z = k -> impP (.tuple (.cons (.int .i64 fun _ => z) (.cons .tt .nil))) (.tuple (.cons (.int .i64 fun _ => if vIdx s.data.toList < 3 then (vIdx s.data.toList : Int) else 0) (.cons (.bool fun _ => decide (vIdx s.data.toList < 3)) .nil))) := fun k hk h z hz => by
  rw [h, hz, if_pos hk]
  exact ⟨⟨rfl, rfl⟩, decide_eq_true hk, rfl⟩
 refine ⟨⟨by decide, trivial⟩, ⟨by decide, trivial⟩, fun g => ⟨rfl, hv 0 (by omega) ?_ _ rfl⟩, fun g => ⟨⟨by decide, trivial⟩, ⟨by decide, trivial⟩, fun g2 => ⟨rfl, hv 1 (by omega) ?_ _ (by decide)⟩, fun g2 => ⟨⟨by decide, trivial⟩, ⟨by decide, trivial⟩, fun g3 => ⟨rfl, hv 2 (by omega) ?_ _ (by decide)⟩, fun g3 => ⟨⟨by decide, trivial⟩, rfl, ?_⟩⟩⟩⟩
 ·have g : toB sCpu = s := of_decide_eq_true g
  exact if_pos (toB_eq.1 g)
 all_goals
  have g : ¬ toB sCpu = s := of_decide_eq_false g
  have n1 : ¬ s.data.toList = sCpu := fun h => g (toB_eq.2 h)
 ·have g2 : toB sMem = s := of_decide_eq_true g2
  unfold vIdx; rw [if_neg n1, if_pos (toB_eq.1 g2)]
 all_goals
  have g2 : ¬ toB sMem = s := of_decide_eq_false g2
  have n2 : ¬ s.data.toList = sMem := fun h => g2 (toB_eq.2 h)
 ·have g3 : toB sHug = s := of_decide_eq_true g3
  unfold vIdx; rw [if_neg n1, if_neg n2, if_pos (toB_eq.1 g3)]
 ·have g3 : ¬ toB sHug = s := of_decide_eq_false g3
  have n3 : ¬ s.data.toList = sHug := fun h => g3 (toB_eq.2 h)
  have h3 : vIdx s.data.toList = 3 := by unfold vIdx; rw [if_neg n1, if_neg n2, if_neg n3]
  rw [h3]
  exact ⟨⟨rfl, rfl⟩, rfl, rfl⟩
theorem read_okv (r h l : Int) (hr : 0 <= r /\ r < 3) (hk : okW h l) : PF 146 (.cons (i64 r) (.cons (wP h l) .nil)) (.tuple (.cons (.int .i64 fun _ => ((vRead r.toNat (wN h l)).1 : Nat)) (.cons (.int .i64 fun _ => (vRead r.toNat (wN h l)).2) .nil))) := by
 refine qf146.tree (mkO_ok Fh5_ok) false 40 rfl ?_
 conv => arg 5; cbv
 have hkey : ∀ e : Nat, e = vEach r.toNat -> TreeOK Tryz.prog (ctx Tryz.f146) Tryz.f146 (Ret (.tuple (.cons (.int .i64 fun _ => ((vRead r.toNat (wN h l)).1 : Nat)) (.cons (.int .i64 fun _ => (vRead r.toNat (wN h l)).2) .nil))))
   (.br (fun _ => (pgN (wN h l) e).2 != 0) (.leaf (.tuple (.cons (.int .i64 fun _ => 0) (.cons (.int .i64 fun _ => (pgN (wN h l) e).2) .nil))) [])
    (.br (fun _ => !decide (0 <= ((pgN (wN h l) e).1 : Int) /\ ((pgN (wN h l) e).1 : Int) <= if r = 0 then 1099511627776 else 1125899906842624)) (.leaf (.tuple (.cons (.int .i64 fun _ => 0) (.cons (.int .i64 fun _ => 15) .nil))) [])
     (.br (fun _ => r == 2) (.br (fun _ => bitAnd .i64 ((pgN (wN h l) e).1 : Int) 2097151 != 0) (.leaf (.tuple (.cons (.int .i64 fun _ => 0) (.cons (.int .i64 fun _ => 11) .nil))) []) (.leaf (.tuple (.cons (.int .i64 fun _ => ((pgN (wN h l) e).1 : Int)) (.cons (.int .i64 fun _ => 0) .nil))) []))
      (.leaf (.tuple (.cons (.int .i64 fun _ => ((pgN (wN h l) e).1 : Int)) (.cons (.int .i64 fun _ => 0) .nil))) [])))) := by
  rintro e rfl
  have hm : (if r = 0 then (1099511627776 : Int) else 1125899906842624) = (vMost r.toNat : Int) := by
   have : r = 0 \/ r = 1 \/ r = 2 := by omega
   rcases this with rfl | rfl | rfl <;> rfl
  have h2 : (r == 2) = decide (r.toNat = 2) := by rw [Bool.eq_iff_iff]; simp; omega
  rw [hm, h2]
  unfold vRead
  generalize pgN (wN h l) (vEach r.toNat) = p
  obtain ⟨n, e⟩ := p
  have hmm : vMost r.toNat <= 1125899906842624 := by unfold vMost; split <;> omega
  refine ⟨fun g => ⟨rfl, ?_⟩, fun g => ⟨fun g2 => ⟨rfl, ?_⟩, fun g2 => ⟨fun g3 => ⟨fun g4 => ⟨rfl, ?_⟩, fun g4 => ⟨rfl, ?_⟩⟩, fun g3 => ⟨rfl, ?_⟩⟩⟩⟩
  ·have g : e ≠ 0 := bneT g
   simp only [if_pos g]
   exact ⟨⟨rfl, rfl⟩, ⟨rfl, rfl⟩, rfl⟩
  all_goals
   have g : ¬ e ≠ 0 := fun hc => hc (bneF g)
   simp only [if_neg g]
  ·have g2 : ¬ (0 <= (n : Int) /\ (n : Int) <= (vMost r.toNat : Int)) := by simpa using g2
   rw [if_pos (by omega)]
   exact ⟨⟨rfl, rfl⟩, ⟨rfl, rfl⟩, rfl⟩
  all_goals
   have g2 : (0 <= (n : Int) /\ (n : Int) <= (vMost r.toNat : Int)) := by simpa using g2
   rw [if_neg (show ¬ vMost r.toNat < n by omega)]
  ·have g3 := of_decide_eq_true g3
   have g4 := bneT g4
   dsimp only at g4
   rw [and_huge (by omega)] at g4
   rw [if_pos ⟨g3, by omega⟩]
   exact ⟨⟨rfl, rfl⟩, ⟨rfl, rfl⟩, rfl⟩
  ·have g3 := of_decide_eq_true g3
   have g4 := bneF g4
   dsimp only at g4
   rw [and_huge (by omega)] at g4
   rw [if_neg (fun hc => hc.2 (by omega))]
   exact ⟨⟨rfl, rfl⟩, ⟨rfl, rfl⟩, rfl⟩
  ·have g3 := of_decide_eq_false g3
   rw [if_neg (fun hc => g3 hc.1)]
   exact ⟨⟨rfl, rfl⟩, ⟨rfl, rfl⟩, rfl⟩
 refine ⟨⟨hk, trivial⟩, fun g => ⟨⟨hk, trivial⟩, ?_⟩, fun g => ?_⟩
 ·have g := beqT g
  exact hkey 1000000 (by rw [g]; rfl)
 ·have g := beqF g
  exact hkey 1000000000 (by unfold vEach; rw [if_neg (by omega)])
noncomputable def Fh6 : Table := addS 103 (.cons (.slice 3 shV) .nil) (fun l => (.tuple (.cons (.agg (.cons (.int .i64 fun _ => ((sumL (l ()) (0, 0, 0)).getD (0, 0, 0)).1) (.cons (.int .i64 fun _ => ((sumL (l ()) (0, 0, 0)).getD (0, 0, 0)).2.1) (.cons (.int .i64 fun _ => ((sumL (l ()) (0, 0, 0)).getD (0, 0, 0)).2.2) .nil)))) (.cons (.bool fun _ => (sumL (l ()) (0, 0, 0)).isSome) .nil)), [fun _ => List.length (α := shV.val) (l ()) < 9223372036854775807]))
 (addS 86 (.cons (.int .i64) (.cons (.int .i64) .nil)) (fun r n => (.str fun _ => if r () = 0 then toB (atext ((n ()).toNat * 1000000)) else toB (btext ((n ()).toNat * 1000000000)), [fun _ => (0 <= r () /\ r () < 3) /\ 0 <= n () /\ n () <= 1125899906842624]))
 (addS 120 (.cons .str .nil) (fun s => (.tuple (.cons (.int .i64 fun _ => if vIdx (s ()).data.toList < 3 then (vIdx (s ()).data.toList : Int) else 0) (.cons (.bool fun _ => decide (vIdx (s ()).data.toList < 3)) .nil)), []))
 (addS 146 (.cons (.int .i64) (.cons shWide .nil)) (fun r h l => (.tuple (.cons (.int .i64 fun _ => ((vRead (r ()).toNat (wN (h ()) (l ()))).1 : Nat)) (.cons (.int .i64 fun _ => (vRead (r ()).toNat (wN (h ()) (l ()))).2) .nil)), [fun _ => (0 <= r () /\ r () < 3) /\ okW (h ()) (l ())])) Fh5)))
theorem Fh6_ok : TableOK Tryz.prog G0 Fh6 := addS_ok qf103.callable (fun l h => sum_okv (l ()) h.1) (addS_ok qf86.callable (fun r n h => told_ok (r ()) (n ()) h.1.1 h.1.2) (addS_ok qf120.callable (fun s _ => named_ok (s ())) (addS_ok qf146.callable (fun r h l c => read_okv (r ()) (h ()) (l ()) c.1.1 c.1.2) Fh5_ok)))
noncomputable def Fl : Table := addS 43 (.cons .str (.cons .str .nil)) (fun s p => (.tuple (.cons (.str fun _ => (cutB (s ()) (p ())).1) (.cons (.str fun _ => (cutB (s ()) (p ())).2.1) (.cons (.bool fun _ => (cutB (s ()) (p ())).2.2) .nil))), [fun _ => (s ()).size < 4294967281]))
 (addS 33 (.cons .str (.cons .str .nil)) (fun s p => (.slice none 1 (fun _ => ((Lib.splitB (p ()) 0 (Lib.countB (s ()) (p ())) (s ())).length : Int)) fun j => .str fun _ => (Lib.splitB (p ()) 0 (Lib.countB (s ()) (p ())) (s ())).getD (j ()).toNat ByteArray.empty, [fun _ => (s ()).size < 4294967281 /\ 1 <= (p ()).size]))
 (addS 31 (.cons (.slice 1 .str) (.cons .str .nil)) (fun l s => (.str fun _ => joinB (l ()) (s ()), [fun _ => List.length (α := ByteArray) (l ()) <= 140737488355328 /\ (joinB (l ()) (s ())).size <= 140737488355328])) Fh6))
theorem Fl_ok : TableOK Tryz.prog G0 Fl := addS_ok qf43.callable (fun s p h => cut_ok (s ()) (p ()) h.1) (addS_ok qf33.callable (fun s p h => split_ok (s ()) (p ()) h.1.1 h.1.2) (addS_ok qf31.callable (fun l s h => join_ok (l ()) (s ()) h.1.1 h.1.2) Fh6_ok))
theorem cut_len (x : ByteArray) : (toB (Lib.cut x.data.toList [61]).2.1).size <= x.size := by
 rw [<- size_toB (toB _), <- size_toB x]
 show (Lib.cut x.data.toList [61]).2.1.length <= _
 unfold Lib.cut
 split
 ·rw [List.length_drop]; omega
 ·exact Nat.zero_le _
theorem part_okv (x : ByteArray) (hx : x.size < 2147483648) : PF 121 (.cons (.str fun _ => x) .nil) (.tuple (.cons (.int .i64 fun _ => ((vPart x.data.toList).1 : Nat)) (.cons (.int .i64 fun _ => ((vPart x.data.toList).2.1 : Nat)) (.cons (.int .i64 fun _ => (vPart x.data.toList).2.2) .nil)))) := by
 refine qf121.tree (mkO_ok Fl_ok) false 40 rfl ?_
 conv => arg 5; cbv
 have hlen := cut_len x
 have hle := vIdx_le (Lib.cut x.data.toList [61]).1
 have hcut : cutB x (⟨#[61]⟩ : ByteArray) = (toB (Lib.cut x.data.toList [61]).1, toB (Lib.cut x.data.toList [61]).2.1, (Lib.cut x.data.toList [61]).2.2) := rfl
 have hd : ∀ l : List UInt8, (toB l).data.toList = l := fun _ => rfl
 have hvp : vPart x.data.toList = if (Lib.cut x.data.toList [61]).2.2 = false \/ vIdx (Lib.cut x.data.toList [61]).1 = 3 then (0, 0, 11) else
  if (aparse (Lib.cut x.data.toList [61]).2.1).2 ≠ 0 \/ (aparse (Lib.cut x.data.toList [61]).2.1).1 = 0 then (vIdx (Lib.cut x.data.toList [61]).1, 0, (aparse (Lib.cut x.data.toList [61]).2.1).2) else
  (vIdx (Lib.cut x.data.toList [61]).1, vRead (vIdx (Lib.cut x.data.toList [61]).1) (aparse (Lib.cut x.data.toList [61]).2.1).1) := rfl
 have hA := aparse_lt (Lib.cut x.data.toList [61]).2.1
 simp only [hcut, hd, wN_of]
 rw [hvp]
 generalize (Lib.cut x.data.toList [61]).2.2 = ok at *
 generalize vIdx (Lib.cut x.data.toList [61]).1 = r at *
 generalize aparse (Lib.cut x.data.toList [61]).2.1 = A at *
 generalize (Lib.cut x.data.toList [61]).2.1 = u at *
 generalize (Lib.cut x.data.toList [61]).1 = u1 at *
 obtain ⟨v, e⟩ := A
 have hvW : v < W128 := Nat.lt_of_le_of_lt hA (by decide)
 have hbad : ok = false \/ r = 3 -> impP (.tuple (.cons (.int .i64 fun _ => 0) (.cons (.int .i64 fun _ => 0) (.cons (.int .i64 fun _ => 11) .nil)))) (.tuple (.cons (.int .i64 fun _ => (((if ok = false \/ r = 3 then (0, 0, 11) else if e ≠ 0 \/ v = 0 then (r, 0, e) else (r, vRead r v)) : Nat × Nat × Int).1 : Int)) (.cons (.int .i64 fun _ => (((if ok = false \/ r = 3 then (0, 0, 11) else if e ≠ 0 \/ v = 0 then (r, 0, e) else (r, vRead r v)) : Nat × Nat × Int).2.1 : Int)) (.cons (.int .i64 fun _ => ((if ok = false \/ r = 3 then (0, 0, 11) else if e ≠ 0 \/ v = 0 then (r, 0, e) else (r, vRead r v)) : Nat × Nat × Int).2.2) .nil)))) := fun h => by
  rw [if_pos h]; exact ⟨⟨rfl, rfl⟩, ⟨rfl, rfl⟩, ⟨rfl, rfl⟩, rfl⟩
 refine ⟨⟨by omega, trivial⟩, fun g => ⟨rfl, hbad ?_⟩, fun g => ⟨fun g2 => ⟨rfl, hbad ?_⟩, fun g2 => ?_⟩⟩
 ·have g : (!ok) = true := g
  exact .inl (by simpa using g)
 ·have g2 : (!decide (r < 3)) = true := g2
  exact .inr (by have : ¬ r < 3 := by simpa using g2
                 omega)
 have g : ok = true := by
  have g : (!ok) = false := g
  simpa using g
 have g2 : r < 3 := by
  have g2 : (!decide (r < 3)) = false := g2
  simpa using g2
 have hr : (if r < 3 then (r : Int) else 0) = (r : Int) := if_pos g2
 rw [if_neg (show ¬ (ok = false \/ r = 3) from fun h => by rcases h with h | h; (rw [g] at h; cases h); omega)]
 simp only [hr]
 refine ⟨⟨by omega, trivial⟩, fun g3 => ⟨rfl, ?_⟩, fun g3 => ⟨⟨⟨okW_of hvW, okW_small (by decide)⟩, trivial⟩, fun g4 => ⟨rfl, ?_⟩, fun g4 => ⟨⟨⟨by omega, okW_of hvW⟩, trivial⟩, rfl, ?_⟩⟩⟩
 ·have g3 := bneT g3
  rw [if_pos (.inl g3)]
  exact ⟨⟨rfl, rfl⟩, ⟨rfl, rfl⟩, ⟨rfl, rfl⟩, rfl⟩
 ·have g4 := beqT g4
  have hz : v = 0 := by
   have h0 : wN 0 0 = 0 := rfl
   rw [h0] at g4
   split at g4
   ·cases g4
   ·split at g4
    ·cases g4
    ·omega
  rw [if_pos (.inr hz)]
  exact ⟨⟨rfl, rfl⟩, ⟨rfl, rfl⟩, ⟨rfl, rfl⟩, rfl⟩
 ·have g3 : e = 0 := bneF g3
  have g4 := beqF g4
  have hz : v ≠ 0 := fun hz => g4 (by rw [hz]; rfl)
  rw [if_neg (fun h => by rcases h with h | h; exact h g3; exact hz h)]
  have tn : ((r : Nat) : Int).toNat = r := Int.toNat_natCast r
  refine ⟨⟨rfl, rfl⟩, ⟨rfl, ?_⟩, ⟨rfl, ?_⟩, rfl⟩ <;> (dsimp only; rw [tn])
noncomputable def Fl2 : Table := addS 121 (.cons .str .nil) (fun x => (.tuple (.cons (.int .i64 fun _ => ((vPart (x ()).data.toList).1 : Nat)) (.cons (.int .i64 fun _ => ((vPart (x ()).data.toList).2.1 : Nat)) (.cons (.int .i64 fun _ => (vPart (x ()).data.toList).2.2) .nil))), [fun _ => (x ()).size < 2147483648])) Fl
theorem Fl2_ok : TableOK Tryz.prog G0 Fl2 := addS_ok qf121.callable (fun x h => part_okv (x ()) h.1) Fl_ok
def vRest (c m h i : Nat) : List (List UInt8) := (if i <= 0 /\ 0 < c then [sCpu ++ 61 :: atext (c * 1000000)] else []) ++ ((if i <= 1 /\ 0 < m then [sMem ++ 61 :: btext (m * 1000000000)] else []) ++ (if i <= 2 /\ 0 < h then [sHug ++ 61 :: btext (h * 1000000000)] else []))
def nmB (i : Nat) : ByteArray := [toB sCpu, toB sMem, toB sHug].getD i ByteArray.empty
def tdB (i : Nat) (n : Int) : ByteArray := if (i : Int) = 0 then toB (atext (n.toNat * 1000000)) else toB (btext (n.toNat * 1000000000))
theorem tx_len (v : Nat) (h : v <= mostA) : (toB (atext v)).size <= 30 /\ (toB (btext v)).size <= 30 := by
 have ha : (atext v).length <= 30 := by
  unfold atext
  split
  ·decide
  ·rw [List.length_append]
   have h1 := dec_len (n := (thou 9 v).1) (k := 28) (Nat.lt_of_le_of_lt (Nat.le_trans (thou_le 9 v).1 h) (by decide)) (by omega)
   have h2 := (sufA_le (thou 9 v).2).1
   omega
 refine ⟨by rw [<- size_toB]; exact ha, ?_⟩
 rw [<- size_toB]
 show (btext v).length <= 30
 unfold btext
 split
 ·exact ha
 ·rw [List.length_append]
  have h1 := dec_len (n := (kibi 6 (v / 1000000000)).1) (k := 28) (Nat.lt_of_le_of_lt (Nat.le_trans (kibi_le 6 _).1 (Nat.le_trans (Nat.div_le_self _ _) h)) (by decide)) (by omega)
  have h2 := (sufA_le (kibi 6 (v / 1000000000)).2).2
  omega
def eqB : ByteArray := ⟨#[61]⟩
theorem eqB_key (l s : List UInt8) : ((toB l ++ eqB) ++ toB s).data.toList = l ++ 61 :: s := by simp [toB, eqB]
theorem w_most {n : Int} (hn : n <= 1125899906842624) : n.toNat * 1000000 <= mostA /\ n.toNat * 1000000000 <= mostA :=
 have : n.toNat <= 1125899906842624 := by omega
 ⟨Nat.le_trans (Nat.mul_le_mul_right _ this) (by decide), Nat.le_trans (Nat.mul_le_mul_right _ this) (by decide)⟩
theorem vr0 (c m h : Nat) : vRest c m h 0 = (if 0 < c then [sCpu ++ 61 :: atext (c * 1000000)] else []) ++ vRest c m h 1 := by simp [vRest]
theorem vr1 (c m h : Nat) : vRest c m h 1 = (if 0 < m then [sMem ++ 61 :: btext (m * 1000000000)] else []) ++ vRest c m h 2 := by simp [vRest]
theorem vr2 (c m h : Nat) : vRest c m h 2 = (if 0 < h then [sHug ++ 61 :: btext (h * 1000000000)] else []) ++ vRest c m h 3 := by simp [vRest]
theorem vr3 (c m h : Nat) : vRest c m h 3 = [] := by
 unfold vRest
 rw [if_neg (fun hc => absurd hc.1 (by decide)), if_neg (fun hc => absurd hc.1 (by decide)), if_neg (fun hc => absurd hc.1 (by decide))]; rfl
theorem vrP (c m h : Nat) : vRest c m h 0 = vParts c m h := by
 rw [vr0, vr1, vr2, vr3, List.append_nil]; unfold vParts; rfl
theorem td0 (n : Int) : tdB 0 n = toB (atext (n.toNat * 1000000)) := if_pos rfl
theorem td1 (n : Int) : tdB 1 n = toB (btext (n.toNat * 1000000000)) := if_neg (by decide)
theorem td2 (n : Int) : tdB 2 n = toB (btext (n.toNat * 1000000000)) := if_neg (by decide)
structure PcS (c m h : Int) (i : Nat) (n : Int) : Prop where
 lo : 0 <= n /\ n <= 1125899906842624
 nm : (nmB i).size <= 9
 td : (tdB i n).size <= 30
 yes : 0 < n -> vRest c.toNat m.toNat h.toNat i = ((nmB i ++ eqB) ++ tdB i n).data.toList :: vRest c.toNat m.toNat h.toNat (i + 1)
 no : ¬ 0 < n -> vRest c.toNat m.toNat h.toNat i = vRest c.toNat m.toNat h.toNat (i + 1)
theorem nm0 : nmB 0 = toB sCpu := rfl
theorem nm1 : nmB 1 = toB sMem := rfl
theorem nm2 : nmB 2 = toB sHug := rfl
theorem pc0 {c m h : Int} (hc : 0 <= c /\ c <= 1125899906842624) : PcS c m h 0 c :=
 ⟨hc, by decide, by rw [td0]; exact (tx_len _ (w_most hc.2).1).1, fun hp => by rw [td0, nm0, eqB_key, vr0, if_pos (show 0 < c.toNat by omega)]; exact List.singleton_append, fun hp => by rw [vr0, if_neg (show ¬ 0 < c.toNat by omega)]; exact List.nil_append _⟩
theorem pc1 {c m h : Int} (hc : 0 <= m /\ m <= 1125899906842624) : PcS c m h 1 m :=
 ⟨hc, by decide, by rw [td1]; exact (tx_len _ (w_most hc.2).2).2, fun hp => by rw [td1, nm1, eqB_key, vr1, if_pos (show 0 < m.toNat by omega)]; exact List.singleton_append, fun hp => by rw [vr1, if_neg (show ¬ 0 < m.toNat by omega)]; exact List.nil_append _⟩
theorem pc2 {c m h : Int} (hc : 0 <= h /\ h <= 1125899906842624) : PcS c m h 2 h :=
 ⟨hc, by decide, by rw [td2]; exact (tx_len _ (w_most hc.2).2).2, fun hp => by rw [td2, nm2, eqB_key, vr2, if_pos (show 0 < h.toNat by omega)]; exact List.singleton_append, fun hp => by rw [vr2, if_neg (show ¬ 0 < h.toNat by omega)]; exact List.nil_append _⟩
theorem pc_step {c m h : Int} {i : Nat} (hi : i < 3) (hrr : (0 <= c /\ c <= 1099511627776) /\ (0 <= m /\ m <= 1125899906842624) /\ (0 <= h /\ h <= 1125899906842624) /\ h % 2097152 = 0) : PcS c m h i ([c, m, h].getD i 0) := by
 have this : i = 0 \/ i = 1 \/ i = 2 := by omega
 rcases this with rfl | rfl | rfl
 ·exact pc0 ⟨hrr.1.1, by omega⟩
 ·exact pc1 hrr.2.1
 ·exact pc2 hrr.2.2.1
structure VtI (c m h : Int) (x : Nat × List ByteArray) : Prop where
 i : x.1 <= 3
 few : x.2.length <= x.1
 sz : ∀ y ∈ x.2, y.size <= 43
 e : x.2.map (fun y => y.data.toList) ++ vRest c.toNat m.toNat h.toNat x.1 = vParts c.toNat m.toNat h.toNat
def vtA (c m h : Int) (x : Nat × List ByteArray) : Env := [(11, .int .i64 fun _ => (x.1 : Int)), (10, .arrI .i64 3 fun _ => [c, m, h]), (3, .slice (some 1) 1 (fun _ => (x.2.length : Int)) fun j => .str fun _ => x.2.getD (j ()).toNat ByteArray.empty), (1, .ptr 0 0)]
def vtS (c m h : Int) : Store := [(1, .own 1 9), (0, .var (vP c m h))]
def ren12 : Nat -> Nat := fun i => bif beqN i 1 then 2 else i
theorem vtext_ok (c m h : Int) (hr : vRight c m h = true) : PF 64 (.cons (vP c m h) .nil) (.str fun _ => toB (vText c.toNat m.toNat h.toNat)) := by
 refine qf64.treeS (mkO_ok Fl2_ok) false 40 (.no .any) rfl ?_
 conv => arg 5; cbv
 refine ⟨⟨by rw [hr]; rfl, trivial⟩, ?_⟩
 generalize hgoal : toB (vText c.toNat m.toNat h.toNat) = goal
 refine run_own (A := _) 3 1 9 (.str fun _ => ByteArray.empty) (by rfl) (by rfl) (by rfl) ?_
 have vt0 : ([] : List ByteArray).map (fun y => y.data.toList) ++ vRest c.toNat m.toNat h.toNat 0 = vParts c.toNat m.toNat h.toNat := by
  rw [vrP]; exact List.nil_append _
 refine run_inv (ι := Nat × List ByteArray) (fun x => 3 - x.1) (VtI c m h) (vtA c m h) (fun _ => vtS c m h) 2 (0, []) (fun i => i) (by rfl) (by rfl) ⟨Nat.zero_le _, Nat.le_refl _, (fun y hy => by cases hy), vt0⟩ ?_ ⟨iR, iR, iR, iR, trivial⟩ ⟨⟨rfl, rfl⟩, iR, trivial⟩
 have hrr := vRight_iff.1 hr
 intro x hx ih
 obtain ⟨i, ws⟩ := x
 have hi : i <= 3 := hx.i
 have hfew : ws.length <= i := hx.few
 have hsz : ∀ y ∈ ws, y.size <= 43 := hx.sz
 have he : ws.map (fun y => y.data.toList) ++ vRest c.toNat m.toNat h.toNat i = vParts c.toNat m.toNat h.toNat := hx.e
 have tn : ∀ n : Nat, ((n : Nat) : Int).toNat = n := fun n => Int.toNat_natCast n
 by_cases hlt : i < 3
 ·
  refine exploreS_ok (ok _) (mkO_ok Fl2_ok) (u := false) 30 (.yes .any) _ rfl ?_
  conv => arg 5; cbv
  simp only [tn]
  obtain ⟨p1, p2, p3, p4, p5⟩ := pc_step (c := c) (m := m) (h := h) hlt hrr
  generalize hn0 : [c, m, h].getD i 0 = n at *
  have hw : IntKind.i64.wrap ((i : Int) + 1) = ((i + 1 : Nat) : Int) := by rw [IntWalk.i64_in _ ⟨by omega, by omega⟩]; omega
  have s1 : eqB.size = 1 := rfl
  have hir : 0 <= (i : Int) /\ (i : Int) < ((3 : Nat) : Int) := by omega
  have hir2 : 0 <= (i : Int) /\ (i : Int) < 3 := by omega
  refine ⟨⟨decide_eq_true hir2.2, trivial⟩, ⟨hir, trivial⟩, fun g => ⟨⟨hir, ?_, ⟨hir2, p1⟩, ?_, ?_, (by show drawOK _ _ = true; decide +kernel), trivial⟩, ?_⟩, fun g => ?_⟩
  ·show (nmB i).size + eqB.size <= 9223372036854775807
   omega
  ·show (nmB i ++ eqB).size + (tdB i n).size <= 9223372036854775807
   rw [ByteArray.size_append]; omega
  ·show 0 < 1 /\ ((ws.length : Int) + 1) * 16 <= 140737488355328
   omega
  ·have g := of_decide_eq_true g
   have p4 := p4 g
   refine ih (i + 1, ws ++ [(nmB i ++ eqB) ++ tdB i n]) ren12 ⟨by show i + 1 <= 3; omega, by show (ws ++ [_]).length <= i + 1; rw [List.length_append, List.length_singleton]; omega, ?_, ?_⟩ (by show 3 - (i + 1) < 3 - i; omega) (by rfl) ⟨⟨rfl, hw⟩, iR, push_imp .str (some 2) 1 ws ((nmB i ++ eqB) ++ tdB i n), iR, trivial⟩ ⟨⟨rfl, rfl⟩, iR, trivial⟩
   ·intro y hy
    rcases List.mem_append.1 hy with hy | hy
    ·exact hsz y hy
    ·rw [List.mem_singleton] at hy
     subst hy
     rw [ByteArray.size_append, ByteArray.size_append]
     omega
   ·show (ws ++ [_]).map (fun y : ByteArray => y.data.toList) ++ vRest c.toNat m.toNat h.toNat (i + 1) = _
    rw [<- he, p4, List.map_append, List.append_assoc]; rfl
  ·have g := of_decide_eq_false g
   have p5 := p5 g
   exact ih (i + 1, ws) (fun i => i) ⟨by show i + 1 <= 3; omega, by show ws.length <= i + 1; omega, hsz, by show _ ++ vRest c.toNat m.toNat h.toNat (i + 1) = _; rw [<- p5]; exact he⟩ (by show 3 - (i + 1) < 3 - i; omega) (by rfl) ⟨⟨rfl, hw⟩, iR, iR, iR, trivial⟩ ⟨⟨rfl, rfl⟩, iR, trivial⟩
 ·
  have e3 : i = 3 := by omega
  refine exploreS_ok (ok _) (mkO_ok Fl2_ok) (u := false) 30 (.no .any) _ rfl ?_
  conv => arg 5; cbv
  have hv3 : vRest c.toNat m.toNat h.toNat i = [] := by
   unfold vRest
   rw [if_neg (fun hc => by omega), if_neg (fun hc => by omega), if_neg (fun hc => by omega)]; rfl
  rw [hv3, List.append_nil] at he
  have hj : ws ≠ [] -> joinB ws ⟨#[44]⟩ = goal := fun hne => by
   rw [<- hgoal]
   unfold vText joinB
   rw [<- he, if_neg (by simpa using hne)]
   rfl
  have hjs := joinB_size (sep := ⟨#[44]⟩) hsz
  have s4 : (⟨#[44]⟩ : ByteArray).size = 1 := rfl
  rw [s4] at hjs
  have hmul : ws.length * (43 + 1) <= 3 * 44 := Nat.mul_le_mul (by omega) (by omega)
  refine ⟨⟨decide_eq_false (show ¬ ((i : Nat) : Int) < 3 by omega), trivial⟩, fun g => ⟨rfl, ?_⟩, fun g => ⟨⟨⟨?_, ?_⟩, fun j => trivial, trivial⟩, rfl, ?_⟩⟩
  ·have g : ((ws.length : Nat) : Int) = 0 := beqT g
   have hw0 : ws = [] := List.length_eq_zero_iff.1 (by omega)
   subst hw0
   show (⟨#[45]⟩ : ByteArray) = goal
   rw [<- hgoal]
   unfold vText
   rw [<- he]; rfl
  ·show (rdL (α := ByteArray) Sh.str.rd (fun _ => (ws.length : Int)) fun j => .str fun _ => ws.getD (j ()).toNat ByteArray.empty).length <= _
   rw [rdL_str]
   omega
  ·show (joinB (rdL (α := ByteArray) Sh.str.rd (fun _ => (ws.length : Int)) fun j => .str fun _ => ws.getD (j ()).toNat ByteArray.empty) ⟨#[44]⟩).size <= _
   rw [rdL_str]
   omega
  ·show joinB (rdL (α := ByteArray) Sh.str.rd (fun _ => (ws.length : Int)) fun j => .str fun _ => ws.getD (j ()).toNat ByteArray.empty) ⟨#[44]⟩ = goal
   rw [rdL_str]
   have g : ¬ ((ws.length : Nat) : Int) = 0 := beqF g
   exact hj fun hc => g (by rw [hc]; rfl)
theorem vtext_no (c m h : Int) (hr : vRight c m h = false) : PF 64 (.cons (vP c m h) .nil) (.str fun _ => (⟨#[]⟩ : ByteArray)) := by
 refine qf64.treeS (mkO_ok Fl2_ok) false 40 (.yes .any) rfl ?_
 conv => arg 5; cbv
 exact ⟨⟨by rw [hr]; rfl, trivial⟩, rfl, rfl⟩
noncomputable def Fm : Table := addS 64 (.cons shV .nil) (fun c m h => (.str fun _ => if vRight (c ()) (m ()) (h ()) = true then toB (vText (c ()).toNat (m ()).toNat (h ()).toNat) else ⟨#[]⟩, [])) Fl2
theorem Fm_ok : TableOK Tryz.prog G0 Fm := addS_ok qf64.callable (fun c m h _ => by
 cases hr : vRight (c ()) (m ()) (h ()) with
 | true => simp only [hr, if_true]; exact vtext_ok _ _ _ hr
 | false => simp only [hr, Bool.false_eq_true, if_false]; exact vtext_no _ _ _ hr) Fl2_ok
def vqA (l : List ByteArray) (i : Int) : Env := [(26, .int .i64 fun _ => i), (25, .int .i64 fun _ => (l.length : Int)), (24, Sh.mkL 1 .str fun _ => l), (5, .ptr 2 0), (4, .ptr 1 0), (3, .int .i64 fun _ => 0), (2, .ptr 0 0)]
def vqS (s : List Bool) (c m h : Int) : Store := [(2, .var (.arrB 3 fun _ => s)), (1, .var (vP c m h)), (0, .var zV)]
def bs (l : List ByteArray) : List (List UInt8) := l.map fun x => x.data.toList
structure VqI (l : List ByteArray) (q : List Int × Int) (x : Int × List Bool × Int × Int × Int) : Prop where
 lo : 0 <= x.1
 hi : x.1 <= l.length
 sl : x.2.1.length = 3
 e : vGo (bs (l.drop x.1.toNat)) x.2.1 [x.2.2.1, x.2.2.2.1, x.2.2.2.2] = q
theorem vq_set {c m h n : Int} {r : Nat} (hr : r < 3) : [c, m, h].set r n = [if (r : Int) = 0 then n else c, if (r : Int) = 1 then n else m, if (r : Int) = 2 then n else h] := by
 have : r = 0 \/ r = 1 \/ r = 2 := by omega
 rcases this with rfl | rfl | rfl <;> rfl
theorem vGo_seen {x : List UInt8} {r : List (List UInt8)} {sn : List Bool} {p : List Int} (h1 : vIdx (Lib.cut x [61]).1 < 3) (h2 : sn.getD (vIdx (Lib.cut x [61]).1) false = true) : vGo (x :: r) sn p = ([0, 0, 0], 11) := by
 rw [vGo, if_pos ⟨h1, h2⟩]
theorem vGo_err {x : List UInt8} {r : List (List UInt8)} {sn : List Bool} {p : List Int} (h : ¬ (vIdx (Lib.cut x [61]).1 < 3 /\ sn.getD (vIdx (Lib.cut x [61]).1) false = true)) (h2 : (vPart x).2.2 ≠ 0) : vGo (x :: r) sn p = ([0, 0, 0], (vPart x).2.2) := by
 rw [vGo, if_neg h, if_pos h2]
theorem vGo_on {x : List UInt8} {r : List (List UInt8)} {sn : List Bool} {p : List Int} (h : ¬ (vIdx (Lib.cut x [61]).1 < 3 /\ sn.getD (vIdx (Lib.cut x [61]).1) false = true)) (h2 : (vPart x).2.2 = 0) : vGo (x :: r) sn p = vGo r (sn.set (vPart x).1 true) (p.set (vPart x).1 ((vPart x).2.1 : Nat)) := by
 rw [vGo, if_neg h, if_neg (fun hc => hc h2)]
theorem bs_drop {l : List ByteArray} {i : Int} (h0 : 0 <= i) (h1 : i < l.length) : l.getD i.toNat ByteArray.empty ∈ l /\ bs (l.drop i.toNat) = (l.getD i.toNat ByteArray.empty).data.toList :: bs (l.drop (i + 1).toNat) := by
 have hlt : i.toNat < l.length := by omega
 have hd : l.drop i.toNat = l.getD i.toNat ByteArray.empty :: l.drop (i + 1).toNat := by
  rw [show (i + 1).toNat = i.toNat + 1 by omega, <- List.getElem_cons_drop hlt, List.getD_eq_getElem?_getD, List.getElem?_eq_getElem hlt]; rfl
 refine ⟨?_, by rw [hd]; rfl⟩
 rw [List.getD_eq_getElem?_getD, List.getElem?_eq_getElem hlt]
 exact List.getElem_mem hlt
theorem vq_end {q : List Int × Int} {c m h : Int} (hq : ([c, m, h], (0 : Int)) = q) : impP (.tuple (.cons (vP c m h) (.cons (.int .i64 fun _ => 0) .nil))) (.tuple (.cons (.agg (.cons (.int .i64 fun _ => q.1.getD 0 0) (.cons (.int .i64 fun _ => q.1.getD 1 0) (.cons (.int .i64 fun _ => q.1.getD 2 0) .nil)))) (.cons (.int .i64 fun _ => q.2) .nil))) := by
 subst hq
 exact ⟨⟨⟨rfl, rfl⟩, ⟨rfl, rfl⟩, ⟨rfl, rfl⟩, rfl⟩, ⟨rfl, rfl⟩, rfl⟩
theorem vq_err {q : List Int × Int} {e : Int} (h : ([0, 0, 0], e) = q) : impP (.tuple (.cons zV (.cons (.int .i64 fun _ => e) .nil))) (.tuple (.cons (.agg (.cons (.int .i64 fun _ => q.1.getD 0 0) (.cons (.int .i64 fun _ => q.1.getD 1 0) (.cons (.int .i64 fun _ => q.1.getD 2 0) .nil)))) (.cons (.int .i64 fun _ => q.2) .nil))) := by
 subst h
 exact ⟨⟨⟨rfl, rfl⟩, ⟨rfl, rfl⟩, ⟨rfl, rfl⟩, rfl⟩, ⟨rfl, rfl⟩, rfl⟩
theorem bytes_nil {s : ByteArray} : s.data.toList = [] ↔ s = ⟨#[]⟩ := ⟨fun h => by cases s; simp_all, fun h => by rw [h]⟩
theorem bytes_one {s : ByteArray} {c : UInt8} : s.data.toList = [c] ↔ s = ⟨#[c]⟩ := ⟨fun h => by rw [<- toB_data s, h]; rfl, fun h => by rw [h]⟩
theorem vParse_at (s : ByteArray) : vParse s.data.toList = if s = ⟨#[]⟩ then ([0, 0, 0], 10) else if s = ⟨#[45]⟩ then ([0, 0, 0], 0) else vGo (bs (Lib.splitB ⟨#[44]⟩ 0 (Lib.countB s ⟨#[44]⟩) s)) [false, false, false] [0, 0, 0] := by
 have hb : bs (Lib.splitB ⟨#[44]⟩ 0 (Lib.countB s ⟨#[44]⟩) s) = spL 44 s.data.toList := by
  rw [split_spB]
  unfold bs spB
  rw [List.map_map]
  exact List.map_id _
 unfold vParse
 rw [hb]
 by_cases h1 : s = ⟨#[]⟩
 ·rw [if_pos h1, if_pos (bytes_nil.2 h1)]
 ·rw [if_neg h1, if_neg (fun h => h1 (bytes_nil.1 h))]
  by_cases h2 : s = ⟨#[45]⟩
  ·rw [if_pos h2, if_pos (bytes_one.2 h2)]
  ·rw [if_neg h2, if_neg (fun h => h2 (bytes_one.1 h))]
theorem splitB_size (sep : ByteArray) : ∀ (k : Nat) (s x : ByteArray), x ∈ Lib.splitB sep 0 k s -> x.size <= s.size
 | 0, s, x, h => by
   rw [Lib.splitB_zero, List.mem_singleton] at h; subst h; exact Nat.le_refl _
 | k + 1, s, x, h => by
   unfold Lib.splitB at h
   split at h
   · rw [List.mem_singleton] at h; subst h; exact Nat.le_refl _
   · rcases List.mem_cons.1 h with h | h
     · subst h; rw [ByteArray.size_extract]; omega
     · have := splitB_size sep k _ x h
       rw [ByteArray.size_extract] at this; omega
theorem x_parse (s : ByteArray) (hs : s.size < 2147483648) : PF 92 (.cons (.str fun _ => s) .nil) (.tuple (.cons (.agg (.cons (.int .i64 fun _ => (vParse s.data.toList).1.getD 0 0) (.cons (.int .i64 fun _ => (vParse s.data.toList).1.getD 1 0) (.cons (.int .i64 fun _ => (vParse s.data.toList).1.getD 2 0) .nil)))) (.cons (.int .i64 fun _ => (vParse s.data.toList).2) .nil))) := by
 rw [vParse_at]
 refine qf92.treeS (mkO_ok Fm_ok) false 40 (.both .any (.both .any .any)) rfl ?_
 conv => arg 5; cbv
 have hs32 : s.size < 4294967281 := by omega
 refine ⟨fun g => ⟨rfl, vq_err ?_⟩, fun g => ⟨fun g2 => ⟨rfl, vq_err ?_⟩, fun g2 => ⟨⟨⟨hs32, Nat.le_refl 1⟩, trivial⟩, ?_⟩⟩⟩
 ·rw [if_pos (of_decide_eq_true g)]
 ·rw [if_neg (of_decide_eq_false g), if_pos (of_decide_eq_true g2)]
 rw [if_neg (of_decide_eq_false g), if_neg (of_decide_eq_false g2)]
 have hlen : (Lib.splitB ⟨#[44]⟩ 0 (Lib.countB s ⟨#[44]⟩) s).length <= 4294967281 := by
  have h1 : 1 <= (⟨#[44]⟩ : ByteArray).size := Nat.le_refl _
  rw [Lib.splitB_all ⟨#[44]⟩ h1 0 _ s rfl]
  have := Lib.countB_le ⟨#[44]⟩ h1 _ s (Nat.le_refl _)
  omega
 have hsz : ∀ x ∈ Lib.splitB ⟨#[44]⟩ 0 (Lib.countB s ⟨#[44]⟩) s, x.size < 2147483648 := fun x hx => Nat.lt_of_le_of_lt (splitB_size ⟨#[44]⟩ _ s x hx) hs
 obtain ⟨l, hle⟩ : ∃ l, l = Lib.splitB ⟨#[44]⟩ 0 (Lib.countB s ⟨#[44]⟩) s := ⟨_, rfl⟩
 rw [<- hle] at hlen hsz ⊢
 generalize hq : vGo (bs l) [false, false, false] [0, 0, 0] = q
 refine run_inv (ι := Int × List Bool × Int × Int × Int) (fun x => (l.length - x.1).toNat) (VqI l q) (fun x => vqA l x.1) (fun x => vqS x.2.1 x.2.2.1 x.2.2.2.1 x.2.2.2.2) 3 (0, [false, false, false], 0, 0, 0) (fun i => i) (by rfl) (by rfl) ⟨by show (0 : Int) <= 0; omega, by show (0 : Int) <= _; omega, rfl, hq⟩ ?_ ⟨iR, iR, iR, iR, iR, iR, iR, trivial⟩ ⟨⟨rfl, rfl⟩, iR, iR, trivial⟩
 intro x hx ih
 obtain ⟨i, sn, c, m, h⟩ := x
 have hi0 : 0 <= i := hx.lo
 have hi1 : i <= l.length := hx.hi
 have hsl : sn.length = 3 := hx.sl
 have he : vGo (bs (l.drop i.toNat)) sn [c, m, h] = q := hx.e
 refine exploreS_ok (ok _) (mkO_ok Fm_ok) (u := false) 30 (.any) _ rfl ?_
 conv => arg 5; cbv
 have dfl : (Sh.str.dflt : ByteArray) = ByteArray.empty := rfl
 refine ⟨fun g => ?_, fun g => ⟨rfl, vq_end ?_⟩⟩
 ·have g := of_decide_eq_true g
  obtain ⟨hm, hd⟩ := bs_drop hi0 g
  have hx1 := hsz _ hm
  rw [hd] at he
  generalize hxe : l.getD i.toNat ByteArray.empty = x at *
  have hxe' : @List.getD Sh.str.val l i.toNat Sh.str.dflt = x := hxe
  have hcut : cutB x (⟨#[61]⟩ : ByteArray) = (toB (Lib.cut x.data.toList [61]).1, toB (Lib.cut x.data.toList [61]).2.1, (Lib.cut x.data.toList [61]).2.2) := rfl
  have hbd : ∀ l : List UInt8, (toB l).data.toList = l := fun _ => rfl
  have hx32 : x.size < 4294967281 := by omega
  have hir : 0 <= i /\ i < (l.length : Int) := ⟨hi0, g⟩
  simp only [hxe', hcut, hbd]
  have hrI : 0 <= (if vIdx (Lib.cut x.data.toList [61]).1 < 3 then ((vIdx (Lib.cut x.data.toList [61]).1 : Nat) : Int) else 0) /\ (if vIdx (Lib.cut x.data.toList [61]).1 < 3 then ((vIdx (Lib.cut x.data.toList [61]).1 : Nat) : Int) else 0) < ((3 : Nat) : Int) := by split <;> omega
  refine ⟨⟨hir, hx32, trivial⟩, fun g1 => ⟨⟨hrI, hrI, trivial⟩, fun g2 => ⟨rfl, vq_err ?_⟩, fun g2 => ?_⟩, fun g1 => ?_⟩
  ·have g1 : vIdx (Lib.cut x.data.toList [61]).1 < 3 := of_decide_eq_true g1
   have g2 : sn.getD (if vIdx (Lib.cut x.data.toList [61]).1 < 3 then ((vIdx (Lib.cut x.data.toList [61]).1 : Nat) : Int) else 0).toNat false = true := g2
   rw [if_pos g1, Int.toNat_natCast] at g2
   rw [vGo_seen g1 g2] at he
   exact he
  all_goals
   have hno : ¬ (vIdx (Lib.cut x.data.toList [61]).1 < 3 /\ sn.getD (vIdx (Lib.cut x.data.toList [61]).1) false = true) := by
    first
    | exact fun hc => absurd hc.1 (of_decide_eq_false g1)
    | intro hc
      have g2 : sn.getD (if vIdx (Lib.cut x.data.toList [61]).1 < 3 then ((vIdx (Lib.cut x.data.toList [61]).1 : Nat) : Int) else 0).toNat false = false := g2
      rw [if_pos hc.1, Int.toNat_natCast, hc.2] at g2
      cases g2
   refine ⟨⟨hx1, trivial⟩, fun g3 => ⟨rfl, vq_err ?_⟩, fun g3 => ?_⟩
   ·have g3 : (vPart x.data.toList).2.2 ≠ 0 := bneT g3
    rw [vGo_err hno g3] at he
    exact he
   ·have g3 : (vPart x.data.toList).2.2 = 0 := bneF g3
    rw [vGo_on hno g3] at he
    have hr := (vPart_ok g3).1
    rw [vq_set hr] at he
    have hr3 : 0 <= (((vPart x.data.toList).1 : Nat) : Int) /\ (((vPart x.data.toList).1 : Nat) : Int) < ((3 : Nat) : Int) := by omega
    generalize (vPart x.data.toList).1 = r at *
    generalize (vPart x.data.toList).2.1 = n at *
    have hw : IntKind.i64.wrap (i + 1) = i + 1 := IntWalk.i64_in _ ⟨by omega, by omega⟩
    have tn : ((r : Nat) : Int).toNat = r := Int.toNat_natCast r
    refine ⟨⟨hr3, hr3, trivial⟩, ?_⟩
    refine ih (i + 1, sn.set r true, if (r : Int) = 0 then (n : Int) else c, if (r : Int) = 1 then (n : Int) else m, if (r : Int) = 2 then (n : Int) else h) (fun i => i) ⟨by show 0 <= i + 1; omega, by show i + 1 <= l.length; omega, by show (sn.set r true).length = 3; rw [List.length_set]; exact hsl, he⟩ (by show ((l.length : Int) - (i + 1)).toNat < ((l.length : Int) - i).toNat; omega) (by rfl) ⟨⟨rfl, hw⟩, iR, iR, iR, iR, iR, iR, trivial⟩ ⟨⟨rfl, ?_⟩, iR, iR, trivial⟩
    show sn.set ((r : Nat) : Int).toNat true = _
    rw [tn]
 ·have g : ¬ i < (l.length : Int) := of_decide_eq_false g
  rw [List.drop_eq_nil_of_le (by omega)] at he
  exact he
noncomputable def Fm2 : Table := addS 92 (.cons .str .nil) (fun s => (.tuple (.cons (.agg (.cons (.int .i64 fun _ => (vParse (s ()).data.toList).1.getD 0 0) (.cons (.int .i64 fun _ => (vParse (s ()).data.toList).1.getD 1 0) (.cons (.int .i64 fun _ => (vParse (s ()).data.toList).1.getD 2 0) .nil)))) (.cons (.int .i64 fun _ => (vParse (s ()).data.toList).2) .nil)), [fun _ => (s ()).size < 2147483648])) Fm
theorem Fm2_ok : TableOK Tryz.prog G0 Fm2 := addS_ok qf92.callable (fun s h => x_parse (s ()) h.1) Fm_ok
theorem refRight_ok (c m h : Int) : PF 23 (.cons (vP c m h) .nil) (.bool fun _ => vRight c m h) := by
 refine qf23.tree (mkO_ok Fm2_ok) false 40 rfl ?_
 conv => arg 5; cbv
 refine ⟨fun g => ⟨fun g2 => ⟨fun g3 => ⟨fun g4 => ⟨fun g5 => ⟨fun g6 => ⟨⟨by decide, trivial⟩, rfl, ?_⟩, fun g6 => ⟨rfl, ?_⟩⟩, fun g5 => ⟨rfl, ?_⟩⟩, fun g4 => ⟨rfl, ?_⟩⟩, fun g3 => ⟨rfl, ?_⟩⟩, fun g2 => ⟨rfl, ?_⟩⟩, fun g => ⟨rfl, ?_⟩⟩
 ·(replace g := of_decide_eq_true g); (try dsimp only at g); (try simp only [cast_fold, oN] at g)
  (replace g2 := of_decide_eq_true g2); (try dsimp only at g2); (try simp only [cast_fold, oN] at g2)
  (replace g3 := of_decide_eq_true g3); (try dsimp only at g3); (try simp only [cast_fold, oN] at g3)
  (replace g4 := of_decide_eq_true g4); (try dsimp only at g4); (try simp only [cast_fold, oN] at g4)
  (replace g5 := of_decide_eq_true g5); (try dsimp only at g5); (try simp only [cast_fold, oN] at g5)
  (replace g6 := of_decide_eq_true g6); (try dsimp only at g6); (try simp only [cast_fold, oN] at g6)
  show (h.tmod 2097152 == 0) = vRight c m h
  rw [Int.tmod_eq_emod_of_nonneg g5, Bool.eq_iff_iff, vRight_iff, beq_iff_eq]
  exact ⟨fun k => ⟨⟨g, g2⟩, ⟨g3, g4⟩, ⟨g5, g6⟩, k⟩, fun k => k.2.2.2⟩
 ·(replace g6 := of_decide_eq_false g6); (try dsimp only at g6); (try simp only [cast_fold, oN] at g6)
  exact vRight_no fun k => g6 k.2.2.1.2
 ·(replace g5 := of_decide_eq_false g5); (try dsimp only at g5); (try simp only [cast_fold, oN] at g5)
  exact vRight_no fun k => g5 k.2.2.1.1
 ·(replace g4 := of_decide_eq_false g4); (try dsimp only at g4); (try simp only [cast_fold, oN] at g4)
  exact vRight_no fun k => g4 k.2.1.2
 ·(replace g3 := of_decide_eq_false g3); (try dsimp only at g3); (try simp only [cast_fold, oN] at g3)
  exact vRight_no fun k => g3 k.2.1.1
 ·(replace g2 := of_decide_eq_false g2); (try dsimp only at g2); (try simp only [cast_fold, oN] at g2)
  exact vRight_no fun k => g2 k.1.2
 ·(replace g := of_decide_eq_false g); (try dsimp only at g); (try simp only [cast_fold, oN] at g)
  exact vRight_no fun k => g k.1.1
noncomputable def Fn : Table := addS 23 (.cons shV .nil) (fun c m h => (.bool fun _ => vRight (c ()) (m ()) (h ()), [])) Fm2
theorem Fn_ok : TableOK Tryz.prog G0 Fn := addS_ok qf23.callable (fun c m h _ => refRight_ok (c ()) (m ()) (h ())) Fm2_ok
theorem refAdd_ok (a b c d e f : Int) : PF 95 (.cons (vP a b c) (.cons (vP d e f) .nil)) (vAdd a b c d e f) := by
 refine qf95.tree (mkO_ok Fn_ok) false 40 rfl ?_
 conv => arg 5; cbv
 have nt : ∀ {b : Bool}, (!b) = true -> b = false := fun h => by simpa using h
 have nf : ∀ {b : Bool}, (!b) = false -> b = true := fun h => by simpa using h
 refine ⟨fun g => ⟨rfl, vAdd_no ?_⟩, fun g => ⟨fun g2 => ⟨rfl, vAdd_no ?_⟩, fun g2 => ?_⟩⟩
 ·have g : vRight a b c = false := nt g
  unfold okAdd; rw [g]; rfl
 ·have g2 : vRight d e f = false := nt g2
  unfold okAdd; rw [g2, Bool.and_false]; rfl
 have g : vRight a b c = true := nf g
 have g2 : vRight d e f = true := nf g2
 have r1 := vRight_iff.1 g
 have r2 := vRight_iff.1 g2
 have wa : IntKind.i64.wrap (a + d) = a + d := IntWalk.i64_in _ ⟨by omega, by omega⟩
 have wb : IntKind.i64.wrap (b + e) = b + e := IntWalk.i64_in _ ⟨by omega, by omega⟩
 have wc : IntKind.i64.wrap (c + f) = c + f := IntWalk.i64_in _ ⟨by omega, by omega⟩
 simp only [wa, wb, wc]
 refine ⟨fun g3 => ⟨rfl, vAdd_no ?_⟩, fun g3 => ⟨rfl, ?_⟩⟩
 ·have g3 : vRight (a + d) (b + e) (c + f) = false := nt g3
  unfold okAdd; rw [g3, Bool.and_false]
 ·have g3 : vRight (a + d) (b + e) (c + f) = true := nf g3
  have hok : okAdd a b c d e f = true := by unfold okAdd; rw [g, g2, g3]; rfl
  unfold vAdd
  rw [hok]
  exact ⟨⟨⟨rfl, rfl⟩, ⟨rfl, rfl⟩, ⟨rfl, rfl⟩, rfl⟩, rfl, rfl⟩
noncomputable def Fn1 : Table := addS 95 (.cons shV (.cons shV .nil)) (fun a b c d e f => (.tuple (.cons (.agg (.cons (.int .i64 fun _ => if okAdd (a ()) (b ()) (c ()) (d ()) (e ()) (f ()) = true then a () + d () else 0) (.cons (.int .i64 fun _ => if okAdd (a ()) (b ()) (c ()) (d ()) (e ()) (f ()) = true then b () + e () else 0) (.cons (.int .i64 fun _ => if okAdd (a ()) (b ()) (c ()) (d ()) (e ()) (f ()) = true then c () + f () else 0) .nil)))) (.cons (.bool fun _ => okAdd (a ()) (b ()) (c ()) (d ()) (e ()) (f ())) .nil)), []))
 Fn
theorem Fn1_ok : TableOK Tryz.prog G0 Fn1 := addS_ok qf95.callable (fun a b c d e f _ => refAdd_ok (a ()) (b ()) (c ()) (d ()) (e ()) (f ())) Fn_ok
def smF (ok : Bool) (l : List shV.val) (x : V3) : Option V3 := bif ok then sumL l x else none
theorem smF_on {v : shV.val} {l : List shV.val} {x : V3} : smF true (v :: l) x = smF (okAdd x.1 x.2.1 x.2.2 (e1 v) (e2 v) (e3 v)) l (if okAdd x.1 x.2.1 x.2.2 (e1 v) (e2 v) (e3 v) = true then x.1 + e1 v else 0, if okAdd x.1 x.2.1 x.2.2 (e1 v) (e2 v) (e3 v) = true then x.2.1 + e2 v else 0, if okAdd x.1 x.2.1 x.2.2 (e1 v) (e2 v) (e3 v) = true then x.2.2 + e3 v else 0) := by
 show (if okAdd x.1 x.2.1 x.2.2 (e1 v) (e2 v) (e3 v) = true then sumL l (x.1 + e1 v, x.2.1 + e2 v, x.2.2 + e3 v) else none) = _
 cases okAdd x.1 x.2.1 x.2.2 (e1 v) (e2 v) (e3 v) <;> rfl
structure SmI (l : List shV.val) (q : Option V3) (x : Nat × V3 × Bool) : Prop where
 hi : x.1 <= l.length
 e : smF x.2.2 (l.drop x.1) x.2.1 = q
 z : x.2.2 = false -> x.2.1 = (0, 0, 0)
def rsA (l : List shV.val) (i : Nat) (ok : Bool) : Env := [(11, .int .i64 fun _ => (i : Int)), (10, .int .i64 fun _ => (l.length : Int)), (9, .slice none 3 (fun _ => (l.length : Int)) fun j => shV.mk fun _ => l.getD (j ()).toNat shV.dflt), (5, .bool fun _ => ok), (4, .ptr 1 0), (2, .ptr 0 0)]
theorem refSum_ok (l : List shV.val) (hl : l.length < 9223372036854775807) : PF 72 (.cons (Sh.mkL 3 shV fun _ => l) .nil) (sumP (sumL l (0, 0, 0))) := by
 refine qf72.tree (mkO_ok Fn1_ok) false 40 rfl ?_
 conv => arg 5; cbv
 generalize hq : sumL l (0, 0, 0) = q
 refine run_inv (ι := Nat × V3 × Bool) (fun x => l.length - x.1) (SmI l q) (fun x => rsA l x.1 x.2.2) (fun x => smS x.2.1) 2 (0, (0, 0, 0), true) (fun i => i) (by rfl) (by rfl) ⟨Nat.zero_le _, hq, fun h => by cases h⟩ ?_ ⟨iR, iR, iR, rfl, iR, iR, trivial⟩ ⟨iR, iR, trivial⟩
 intro y hy ih
 obtain ⟨i, x, o⟩ := y
 have hi : i <= l.length := hy.hi
 have he : smF o (l.drop i) x = q := hy.e
 have hz : o = false -> x = (0, 0, 0) := hy.z
 have tn : ∀ n : Nat, ((n : Nat) : Int).toNat = n := fun n => Int.toNat_natCast n
 refine explore_ok (ok _) (mkO_ok Fn1_ok) (u := false) 20 _ rfl ?_
 conv => arg 5; cbv
 simp only [tn]
 refine ⟨fun g => ?_, fun g => ⟨rfl, ?_⟩⟩
 ·have g : (i : Int) < (l.length : Int) := of_decide_eq_true g
  have hlt : i < l.length := by omega
  have hw : IntKind.i64.wrap ((i : Int) + 1) = ((i + 1 : Nat) : Int) := by rw [IntWalk.i64_in _ ⟨by omega, by omega⟩]; omega
  rw [List.drop_eq_getElem_cons hlt] at he
  have hg : l.getD i shV.dflt = l[i] := by rw [List.getD_eq_getElem?_getD, List.getElem?_eq_getElem hlt]; rfl
  rw [hg]
  refine ⟨⟨⟨(by (try dsimp only); (try simp only [cast_fold, oN]); omega), g⟩, trivial⟩, fun g2 => ?_, fun g2 => ?_⟩
  ·have g2 : o = true := g2
   subst g2
   rw [smF_on] at he
   refine ih (i + 1, (if okAdd x.1 x.2.1 x.2.2 (e1 l[i]) (e2 l[i]) (e3 l[i]) = true then x.1 + e1 l[i] else 0, if okAdd x.1 x.2.1 x.2.2 (e1 l[i]) (e2 l[i]) (e3 l[i]) = true then x.2.1 + e2 l[i] else 0, if okAdd x.1 x.2.1 x.2.2 (e1 l[i]) (e2 l[i]) (e3 l[i]) = true then x.2.2 + e3 l[i] else 0), okAdd x.1 x.2.1 x.2.2 (e1 l[i]) (e2 l[i]) (e3 l[i])) (fun i => i) ⟨by show i + 1 <= l.length; omega, he, fun h => ?_⟩ (by show l.length - (i + 1) < l.length - i; omega) (by rfl) ⟨⟨rfl, hw⟩, iR, iR, iR, iR, iR, trivial⟩ ⟨iR, iR, trivial⟩
   have h : okAdd x.1 x.2.1 x.2.2 (e1 l[i]) (e2 l[i]) (e3 l[i]) = false := h
   show (_, _, _) = _
   rw [h]; rfl
  ·have g2 : o = false := g2
   subst g2
   exact ih (i + 1, x, false) (fun i => i) ⟨by show i + 1 <= l.length; omega, he, hz⟩ (by show l.length - (i + 1) < l.length - i; omega) (by rfl) ⟨⟨rfl, hw⟩, iR, iR, iR, iR, iR, trivial⟩ ⟨iR, iR, trivial⟩
 ·have g : ¬ (i : Int) < (l.length : Int) := of_decide_eq_false g
  have e : i = l.length := by omega
  rw [e, List.drop_length] at he
  rw [<- he]
  cases o with
  | true => exact ⟨⟨⟨rfl, rfl⟩, ⟨rfl, rfl⟩, ⟨rfl, rfl⟩, rfl⟩, rfl, rfl⟩
  | false =>
    rw [hz rfl]
    exact ⟨⟨⟨rfl, rfl⟩, ⟨rfl, rfl⟩, ⟨rfl, rfl⟩, rfl⟩, rfl, rfl⟩
noncomputable def Fn2 : Table := addS 72 (.cons (.slice 3 shV) .nil) (fun l => (.tuple (.cons (.agg (.cons (.int .i64 fun _ => ((sumL (l ()) (0, 0, 0)).getD (0, 0, 0)).1) (.cons (.int .i64 fun _ => ((sumL (l ()) (0, 0, 0)).getD (0, 0, 0)).2.1) (.cons (.int .i64 fun _ => ((sumL (l ()) (0, 0, 0)).getD (0, 0, 0)).2.2) .nil)))) (.cons (.bool fun _ => (sumL (l ()) (0, 0, 0)).isSome) .nil)), [fun _ => List.length (α := shV.val) (l ()) < 9223372036854775807])) Fn1
theorem Fn2_ok : TableOK Tryz.prog G0 Fn2 := addS_ok qf72.callable (fun l h => refSum_ok (l ()) h.1) Fn1_ok
def mkM (F : Table) (H : STable) : OpX := orX (callS H) (mkO F)
theorem mkM_ok {F : Table} {H : STable} (h : TableOK Tryz.prog G0 F) (hs : STableOK Tryz.prog G0 H) : OpXOK Tryz.prog G0 (mkM F H) := orX_ok (callS_ok hs) (mkO_ok h)
theorem bX {fn : Func} {Q : PV -> Store -> Prop} {F : Table} (hF : TableOK Tryz.prog G0 F) (ds : DS) (c : Cfg) (hw : wfK c.k = true) (h : TreeOK Tryz.prog (ctx fn) fn Q (exploreB (ctx fn) (mkM F emptyS) (callB emptyB) false 60 ds c)) : RunC Tryz.prog (ctx fn) fn Q c :=
 exploreB_ok (ok _) (mkM_ok hF emptyS_ok) (callB_ok emptyB_ok) (u := false) 60 ds c hw h
theorem tX {n : Nat} {f : Func} (k : FN n f) {F : Table} (hF : TableOK Tryz.prog G0 F) {args r : PV} (ds : DS) (hle : bleN args.count (ctx f).N = true) (hr : TreeOK Tryz.prog (ctx f) f (Ret r) (exploreB (ctx f) (mkM F emptyS) (callB emptyB) false 60 ds ⟨[.code (body f)], Env.enter 0 args, [], 0⟩)) : PF n args r :=
 k.treeB (mkM_ok hF emptyS_ok) (callB_ok emptyB_ok) false 60 ds hle hr
def preX : OpX := buildOX tyT
theorem preX_ok : OpXOK Tryz.prog G0 preX := buildOX_ok tyOK
def mkX (F : Table) (H : STable) : OpX := orX (strX tyT) (mkM F H)
theorem mkX_ok {F : Table} {H : STable} (h : TableOK Tryz.prog G0 F) (hs : STableOK Tryz.prog G0 H) : OpXOK Tryz.prog G0 (mkX F H) := orX_ok (strX_ok tyOK) (mkM_ok h hs)
def nmA (s : ByteArray) (i : Nat) : Env := [(28, .int .i64 fun _ => (i : Int)), (27, .int .i64 fun _ => (s.size : Int)), (0, .str fun _ => s)]
theorem name_no {s : ByteArray} (h : ¬ (1 <= s.size /\ s.size <= 16 /\ ∀ j : Nat, j < s.size -> rd1 (byteAt s j) j s.size)) : nameB s = false := by
 cases hb : nameB s with
 | true => exact absurd (nameB_iff.1 hb) h
 | false => rfl
theorem name_ok (s : ByteArray) : PF 54 (.cons (.str fun _ => s) .nil) (.bool fun _ => nameB s) := by
 refine qf54.tree (mkO_ok F0_ok) false 40 rfl ?_
 conv => arg 5; cbv
 have hw : 1 <= s.size /\ s.size <= 16 -> IntKind.i64.wrap ((s.size : Int) - 1) = (s.size : Int) - 1 := fun h => IntWalk.i64_in _ ⟨by omega, by omega⟩
 have h45 : ∀ i : Int, rd1 45 i s.size -> i ≠ 0 /\ i ≠ s.size - 1 := fun i h => by unfold rd1 at h; omega
 refine ⟨fun h1 => ⟨rfl, name_no fun k => ?_⟩, fun h1 => ?_⟩
 ·have h1 : (s.size : Int) < 1 := of_decide_eq_true h1
  omega
 have h1 : ¬ (s.size : Int) < 1 := of_decide_eq_false h1
 refine ⟨fun h2 => ⟨rfl, name_no fun k => ?_⟩, fun h2 => ?_⟩
 ·have h2 : 16 < (s.size : Int) := of_decide_eq_true h2
  omega
 have h2 : ¬ 16 < (s.size : Int) := of_decide_eq_false h2
 have hw := hw ⟨by omega, by omega⟩
 simp only [hw]
 refine ⟨⟨⟨Int.le_refl 0, by show (0 : Int) < s.size; omega⟩, trivial⟩, fun h3 => ⟨rfl, name_no fun k => ?_⟩, fun h3 => ⟨⟨⟨by show (0 : Int) <= s.size - 1; omega, by show (s.size : Int) - 1 < s.size; omega⟩, trivial⟩, fun h4 => ⟨rfl, name_no fun k => ?_⟩, fun h4 => ?_⟩⟩
 ·have h3 : byteAt s 0 = 45 := by simpa using h3
  have := k.2.2 0 (by omega)
  have e : byteAt s ((0 : Nat) : Int) = 45 := h3
  rw [e] at this
  exact (h45 _ this).1 rfl
 ·have h4 : byteAt s ((s.size : Int) - 1) = 45 := by simpa using h4
  have := k.2.2 (s.size - 1) (by omega)
  have e2 : (((s.size - 1 : Nat)) : Int) = (s.size : Int) - 1 := by omega
  rw [e2, h4] at this
  exact (h45 _ this).2 rfl
 have h3 : byteAt s 0 ≠ 45 := by simpa using h3
 have h4 : byteAt s ((s.size : Int) - 1) ≠ 45 := by simpa using h4
 refine run_inv (ι := Nat) (fun i => s.size - i) (fun i => i <= s.size /\ ∀ j : Nat, j < i -> okC (byteAt s j) = true) (nmA s) (fun _ => []) 0 0 (fun i => i) (by rfl) (by rfl) ⟨by omega, fun j hj => by omega⟩ ?_ ⟨iR, iR, iR, trivial⟩ trivial
 intro i hi ih
 have hwi : i < s.size -> IntKind.i64.wrap ((i : Int) + 1) = ((i + 1 : Nat) : Int) := fun h => by rw [IntWalk.i64_in _ ⟨by omega, by omega⟩]; omega
 have bad : i < s.size -> ¬ okC (byteAt s i) = true -> nameB s = false := fun hl h => name_no fun k => h (okC_iff.2 (by have := k.2.2 i hl; unfold rd1 at this; omega))
 have good : okC (byteAt s i) = true -> ∀ j : Nat, j < i + 1 -> okC (byteAt s j) = true := fun h j hj => by
  by_cases e : j < i
  ·exact hi.2 j e
  ·obtain rfl : j = i := by omega
   exact h
 refine explore_ok (ok _) (mkO_ok F0_ok) (u := false) 20 _ rfl ?_
 conv => arg 5; cbv
 refine ⟨fun h => ?_, fun h => ⟨rfl, nameB_iff.2 ⟨by omega, by omega, fun j hj => ?_⟩⟩⟩
 ·have h : (i : Int) < (s.size : Int) := of_decide_eq_true h
  refine ⟨⟨⟨Int.natCast_nonneg i, h⟩, trivial⟩, ?_⟩
  repeat' (first | exact ih (i + 1) (fun i => i) ⟨by omega, good (okC_iff.2 (by omega))⟩ (by omega) (by rfl) ⟨⟨rfl, hwi (by omega)⟩, iR, iR, trivial⟩ trivial | exact ⟨rfl, bad (by omega) fun h => by have := okC_iff.1 h; omega⟩ | (refine ⟨fun h => ?_, fun h => ?_⟩ <;> simp only [decide_eq_true_eq, decide_eq_false_iff_not, Bool.not_eq_true', Bool.not_eq_false', beq_iff_eq, bne_iff_ne, ne_eq, beq_eq_false_iff_ne, bne_eq_false_iff_eq, cast_fold, oN] at h))
 ·have h : ¬ (i : Int) < (s.size : Int) := of_decide_eq_false h
  have := okC_iff.1 (hi.2 j (by omega))
  unfold rd1
  rcases this with k | k | k
  ·exact .inl k
  ·exact .inr (.inl k)
  ·refine .inr (.inr ⟨k, fun e => ?_, fun e => ?_⟩)
   ·rw [e] at k; exact h3 k
   ·rw [e] at k; exact h4 k
def rnA (s : ByteArray) (i : Nat) : Env := [(3, .int .i64 fun _ => (i : Int)), (0, .str fun _ => s)]
theorem rname_ok (s : ByteArray) (hs : s.size <= 9223372036854775807) : PF 22 (.cons (.str fun _ => s) .nil) (.bool fun _ => nameB s) := by
 refine qf22.tree (mkO_ok F0_ok) false 40 rfl ?_
 conv => arg 5; cbv
 have hw : IntKind.i64.wrap ((s.size : Int) - 1) = (s.size : Int) - 1 := IntWalk.i64_in _ ⟨by omega, by omega⟩
 refine run_inv (ι := Nat) (fun i => s.size - i) (fun i => i <= s.size /\ ∀ j : Nat, j < i -> rd1 (byteAt s j) j s.size) (rnA s) (fun _ => []) 0 0 (fun i => i) (by rfl) (by rfl) ⟨by omega, fun j hj => by omega⟩ ?_ ⟨iR, iR, trivial⟩ trivial
 intro i hi ih
 have hwi : i < s.size -> IntKind.i64.wrap ((i : Int) + 1) = ((i + 1 : Nat) : Int) := fun h => by rw [IntWalk.i64_in _ ⟨by omega, by omega⟩]; omega
 have bad : i < s.size -> ¬ rd1 (byteAt s i) i s.size -> nameB s = false := fun hl h => name_no fun k => h (k.2.2 i hl)
 have good : rd1 (byteAt s i) i s.size -> ∀ j : Nat, j < i + 1 -> rd1 (byteAt s j) j s.size := fun h j hj => by
  by_cases e : j < i
  ·exact hi.2 j e
  ·obtain rfl : j = i := by omega
   exact h
 refine explore_ok (ok _) (mkO_ok F0_ok) (u := false) 20 _ rfl ?_
 conv => arg 5; cbv
 simp only [hw]
 refine ⟨fun h => ?_, fun h => ?_⟩
 ·have h : (i : Int) < (s.size : Int) := of_decide_eq_true h
  refine ⟨⟨⟨Int.natCast_nonneg i, h⟩, trivial⟩, ?_⟩
  repeat' (first | exact ih (i + 1) (fun i => i) ⟨by omega, good (by unfold rd1; omega)⟩ (by omega) (by rfl) ⟨⟨rfl, hwi (by omega)⟩, iR, trivial⟩ trivial | exact ⟨rfl, bad (by omega) fun h => by unfold rd1 at h; omega⟩ | (refine ⟨fun h => ?_, fun h => ?_⟩ <;> simp only [decide_eq_true_eq, decide_eq_false_iff_not, Bool.not_eq_true', Bool.not_eq_false', beq_iff_eq, bne_iff_ne, ne_eq, beq_eq_false_iff_ne, bne_eq_false_iff_eq, cast_fold, oN] at h))
 ·have h : ¬ (i : Int) < (s.size : Int) := of_decide_eq_false h
  have hall : ∀ j : Nat, j < s.size -> rd1 (byteAt s j) j s.size := fun j hj => hi.2 j (by omega)
  refine ⟨fun h2 => ⟨rfl, ?_⟩, fun h2 => ⟨rfl, name_no fun k => ?_⟩⟩
  ·have h2 : 0 < (s.size : Int) := of_decide_eq_true h2
   show decide ((s.size : Int) < 17) = nameB s
   rw [Bool.eq_iff_iff, nameB_iff, decide_eq_true_eq]
   exact ⟨fun h3 => ⟨by omega, by omega, hall⟩, fun h3 => by omega⟩
  ·have h2 : ¬ 0 < (s.size : Int) := of_decide_eq_false h2
   omega
noncomputable def Fs0 : Table := addS 54 (.cons .str .nil) (fun s => (.bool fun _ => nameB (s ()), [])) (addS 22 (.cons .str .nil) (fun s => (.bool fun _ => nameB (s ()), [fun _ => (s ()).size <= 9223372036854775807])) Fn2)
theorem Fs0_ok : TableOK Tryz.prog G0 Fs0 := addS_ok qf54.callable (fun s _ => name_ok (s ())) (addS_ok qf22.callable (fun s h => rname_ok (s ()) h.1) Fn2_ok)
def cP (c : CV) : PV := shC.mk fun _ => c
theorem container_ok (c : CV) : PF 77 (.cons (cP c) .nil) (.bool fun _ => contB c) := by
 obtain ⟨nm, ⟨a, b, g, _⟩, ⟨d, e, f, _⟩, rs, _⟩ := c
 refine qf77.treeB (mkM_ok Fs0_ok emptyS_ok) (callB_ok emptyB_ok) true 60 (.both .any (.both .any (.both .any (.both .any (.yes (.both (.both .any (.yes (.both (.both .any (.no .any)) (.no .any)))) (.yes (.both (.both .any (.no .any)) (.no .any))))))))) rfl ?_
 conv => arg 5; cbv
 have w1 : IntKind.i64.wrap (0 + 1) = 1 := by decide
 have w2 : IntKind.i64.wrap (1 + 1) = 2 := by decide
 have n10 : ((1 : Int) = 0) = False := eq_false (by decide)
 repeat' (first
  | exact ⟨rfl, contB_iff.2 ⟨by assumption, by assumption, by assumption, by omega, by omega, by omega⟩⟩
  | exact ⟨rfl, contB_no fun k => by obtain ⟨k1, k2, k3, k4, k5, k6⟩ := k; first | omega | (simp_all; done)⟩
  | refine ⟨⟨by decide, trivial⟩, ?_⟩
  | (refine ⟨fun h => ?_, fun h => ?_⟩ <;> simp only [decide_eq_true_eq, decide_eq_false_iff_not, Bool.not_eq_true', Bool.not_eq_false', beq_iff_eq, bne_iff_ne, ne_eq, beq_eq_false_iff_ne, bne_eq_false_iff_eq, Decidable.not_not, cast_fold, oN, w1, w2, n10, if_true, if_false] at h))
theorem rcontainer_ok (c : CV) (hs : (cName c).size <= 9223372036854775807) : PF 44 (.cons (cP c) .nil) (.bool fun _ => contB c) := by
 obtain ⟨nm, ⟨a, b, g, _⟩, ⟨d, e, f, _⟩, rs, _⟩ := c
 refine qf44.treeB (mkM_ok Fs0_ok emptyS_ok) (callB_ok emptyB_ok) true 60 (.any) rfl ?_
 conv => arg 5; cbv
 refine ⟨⟨(by show drawOK _ _ = true; decide +kernel), hs, trivial⟩, ?_⟩
 repeat' (first
  | exact ⟨rfl, (show (g == f) = _ by rw [Bool.eq_iff_iff, beq_iff_eq, contB_iff]; have hp := @vRight_pos d e f; exact ⟨fun k => ⟨by assumption, by assumption, by assumption, k, by omega, by omega⟩, fun k => k.2.2.2.1⟩)⟩
  | exact ⟨rfl, contB_no fun k => by obtain ⟨k1, k2, k3, k4, k5, k6⟩ := k; have hp := vRight_pos k3; first | omega | (simp_all; done)⟩
  | (refine ⟨fun h => ?_, fun h => ?_⟩ <;> simp only [decide_eq_true_eq, decide_eq_false_iff_not, Bool.not_eq_true', Bool.not_eq_false', beq_iff_eq, bne_iff_ne, ne_eq, beq_eq_false_iff_ne, bne_eq_false_iff_eq, Decidable.not_not, cast_fold, oN] at h))
end Go.Proofs.YtpbjcabecalpaaaGreatDoor
namespace Go.Abs
theorem SFun.args {P : Program} {G : Gs} {f : Nat} {a a' : PV} {S : Store} {n : Nat} {Q : PV -> Store -> Prop} (h : SFun P G f a' S n Q) (hi : ∀ (M : Mem) (ρ : Names) (vs : List Value), rel M a ρ .vals vs -> rel M a' ρ .vals vs) : SFun P G f a S n Q :=
 ⟨h.1, fun M ρ w vs hG hI hn hr => h.2 M ρ w vs hG hI hn (hi M ρ vs hr)⟩
end Go.Abs
namespace Go.Proofs.YtpbjcabecalpaaaGreatDoor
open Go Go.Abs Go.Proofs
def strS (s : ByteArray) : Store := [(0, .var (.str fun _ => s))]
noncomputable def Fs1 : Table := addS 77 (.cons shC .nil) (fun s a b g d e f rs => (.bool fun _ => contB (s (), (a (), b (), g (), ()), (d (), e (), f (), ()), rs (), ()), [])) (addS 44 (.cons shC .nil) (fun s a b g d e f rs => (.bool fun _ => contB (s (), (a (), b (), g (), ()), (d (), e (), f (), ()), rs (), ()), [fun _ => (s ()).size <= 9223372036854775807])) Fs0)
theorem Fs1_ok : TableOK Tryz.prog G0 Fs1 := addS_ok qf77.callable (fun s a b g d e f rs _ _ => container_ok (s (), (a (), b (), g (), ()), (d (), e (), f (), ()), rs (), ())) (addS_ok qf44.callable (fun s a b g d e f rs _ h => rcontainer_ok (s (), (a (), b (), g (), ()), (d (), e (), f (), ()), rs (), ()) h.1) Fs0_ok)
noncomputable def Bs0 : BTable := (addI 101 (ctx Tryz.f101) (mkM Fs1 emptyS) (callB emptyB) false (body Tryz.f101) 60 emptyB)
theorem Bs0_ok : BTableOK Tryz.prog G0 Bs0 := (addI_ok qf101 (mkM_ok Fs1_ok emptyS_ok) (callB_ok emptyB_ok) emptyB_ok)
def ixA (l : List CV) (i : Nat) : Env := [(8, .int .i64 fun _ => (i : Int)), (7, .int .i64 fun _ => (l.length : Int)), (0, Sh.mkL 10 shC fun _ => l), (1, .func (.func 101) .nil (.cons (.ptr 0 0) .nil))]
theorem findC_at {l : List CV} {s : ByteArray} {i : Nat} (hi : i < l.length) (h : ∀ j, j < i -> (l.getD j c0).1 ≠ s) (he : (l.getD i c0).1 = s) : findC l s = i := by
 unfold findC
 rw [idxC_some.2 ⟨hi, he, h⟩]
theorem findC_none {l : List CV} {s : ByteArray} (h : ∀ j, j < l.length -> (l.getD j c0).1 ≠ s) : findC l s = -1 := by
 unfold findC
 rw [idxC_none.2 fun c hc => by
  obtain ⟨j, hj, rfl⟩ := List.getElem_of_mem hc
  have := h j hj
  rwa [List.getD_eq_getElem?_getD, List.getElem?_eq_getElem hj] at this]
theorem idx_ok (l : List CV) (s : ByteArray) (hl : l.length <= 9223372036854775807) : SFun Tryz.prog G0 100 (.cons (Sh.mkL 10 shC fun _ => l) (.cons (.func (.func 101) .nil (.cons (.ptr 0 0) .nil)) .nil)) (strS s) 1 (QR 1 (.int .i64 fun _ => findC l s) (strS s)) := by
 refine qf100.streeB (mkM_ok Fs1_ok emptyS_ok) (callB_ok Bs0_ok) false 60 (.any) rfl ?_
 conv => arg 5; cbv
 refine run_inv (ι := Nat) (fun i => l.length - i) (fun i => i <= l.length /\ ∀ j, j < i -> (l.getD j c0).1 ≠ s) (ixA l) (fun _ => strS s) 1 0 (fun i => i) (by rfl) (by rfl) ⟨by omega, fun j hj => by omega⟩ ?_ ⟨iR, iR, iR, iR, trivial⟩ ⟨iR, trivial⟩
 intro i hi ih
 refine exploreB_ok (by first | exact ok _ | exact (ok _).at _ | exact (ok _).round _) (mkM_ok Fs1_ok emptyS_ok) (callB_ok Bs0_ok) (u := false) 60 (.any) _ rfl ?_
 conv => arg 5; cbv
 refine ⟨fun h => ?_, fun h => ?_⟩
 ·have h : (i : Int) < (l.length : Int) := of_decide_eq_true h
  have hi2 : i < l.length := by omega
  have hw : IntKind.i64.wrap ((i : Int) + 1) = ((i + 1 : Nat) : Int) := by rw [IntWalk.i64_in _ ⟨by omega, by omega⟩]; omega
  refine ⟨⟨⟨Int.natCast_nonneg i, h⟩, trivial⟩, fun h2 => ?_, fun h2 => ?_⟩
  ·have h2 : (l.getD i c0).1 = s := of_decide_eq_true (p := (l.getD i c0).1 = s) h2
   exact ⟨fun i => i, rfl, rfl, ⟨iR, trivial⟩, ⟨rfl, (findC_at hi2 hi.2 h2).symm⟩⟩
  ·have h2 : (l.getD i c0).1 ≠ s := of_decide_eq_false (p := (l.getD i c0).1 = s) h2
   refine ih (i + 1) (fun i => i) ⟨by omega, fun j hj => ?_⟩ (by omega) (by rfl) ⟨⟨rfl, hw⟩, iR, iR, iR, trivial⟩ ⟨iR, trivial⟩
   by_cases e : j < i
   ·exact hi.2 j e
   ·obtain rfl : j = i := by omega
    exact h2
 ·have h : ¬ (i : Int) < (l.length : Int) := of_decide_eq_false h
  exact ⟨fun i => i, rfl, rfl, ⟨iR, trivial⟩, ⟨rfl, (findC_none fun j hj => hi.2 j (by omega)).symm⟩⟩
def idxE (args : PV) (g : Sto) : Option SRes := match args with
 | .cons (.slice none 10 len f) (.cons (.func (.func k) .nil (.cons (.ptr id 0) .nil)) .nil) => bif beqN k 101 then (match g id with
   | some (.var (.str s)) => some { ids := [id], args := .cons (.slice none 10 len f) (.cons (.func (.func 101) .nil (.cons (.ptr 0 0) .nil)) .nil), S := [(0, .var (.str s))], r := .int .i64 fun _ => findC (rdL shC.rd len f) (s ()), W := [(0, .var (.str s))], C := [fun _ => (len ()).toNat <= 9223372036854775807, fun _ => ∀ j, shC.fits (f j)] }
   | _ => none) else none
 | _ => none
theorem raw_list {M : Mem} {ρ : Names} {esz : Nat} {a : Sh} {len : Unit -> Int} {f : (Unit -> Int) -> PV} {m : Abs.Mode} {vs : List Value} (hf : ∀ j, a.fits (f j)) (hr : rel M (.slice none esz len f) ρ m vs) : rel M (Sh.mkL esz a fun _ => rdL a.rd len f) ρ m vs :=
 (Sh.slice esz a).fits_mk (p := .slice none esz len f) ⟨rfl, hf⟩ hr
theorem idxE_ok {args : PV} {g : Sto} {x : SRes} (h : idxE args g = some x) : SGood Tryz.prog G0 100 args g x := by
 unfold idxE at h
 split at h
 ·rename_i len f k id
  cases hb : beqN k 101 with
  | false => rw [hb] at h; cases h
  | true =>
    obtain rfl : k = 101 := by simpa using hb
    rw [hb, cond_true] at h
    split at h
    · rename_i s hs
      obtain rfl := Option.some.inj h
      refine ⟨fun hC => (idx_ok _ (s ()) (Nat.le_trans (Nat.le_of_eq (rdL_len shC.rd len f)) hC.1)).args fun M ρ vs hr => ?_, iR, ?_, trivial⟩
      · rcases hr with ⟨h', _⟩ | ⟨_, v, ws, rfl, h1, h2⟩
        · cases h'
        · exact .inr ⟨rfl, v, ws, rfl, raw_list hC.2.1 h1, h2⟩
      · show impO _ (g id) _
        rw [hs]; exact impP_refl (.str s)
    · cases h
 ·cases h
noncomputable def Hs1 : STable := addM 100 idxE emptyS
theorem Hs1_ok : STableOK Tryz.prog G0 Hs1 := addM_ok (fun _ _ _ h => idxE_ok h) emptyS_ok
def podP (p : PoV) : PV := shP.mk fun _ => p
def fiP (l : List CV) (s : ByteArray) : PV := .tuple (.cons (.int .i64 fun _ => if findC l s < 0 then 0 else findC l s) (.cons (.bool fun _ => decide (0 <= findC l s)) .nil))
theorem find_ok (p : PoV) (s : ByteArray) (hl : p.2.2.2.1.length <= 9223372036854775807) : PF 76 (.cons (podP p) (.cons (.str fun _ => s) .nil)) (fiP p.2.2.2.1 s) := by
 refine qf76.treeB (mkM_ok Fs1_ok Hs1_ok) (callB_ok emptyB_ok) false 60 (.any) rfl ?_
 conv => arg 5; cbv
 have e : (rdL shC.rd (fun _ => (p.2.2.2.1.length : Int)) fun j => shC.mk fun _ => (p.2.2.2.1 : List shC.val).getD (j ()).toNat shC.dflt) = p.2.2.2.1 := rdL_mkL shC p.2.2.2.1
 refine ⟨⟨?_, fun j => fits_of_mk _ _, trivial⟩, rfl, ⟨rfl, ?_⟩, ?_, rfl⟩
 ·show (((p.2.2.2.1.length : Nat) : Int)).toNat <= _
  rw [Int.toNat_natCast]; exact hl
 ·exact congrArg (fun l => if findC l s < 0 then 0 else findC l s) e
 ·exact congrArg (fun l => decide (0 <= findC l s)) e
noncomputable def Fs2 : Table := addS 76 (.cons shP (.cons .str .nil)) (fun nm pr po l s => (.tuple (.cons (.int .i64 fun _ => if findC (l ()) (s ()) < 0 then 0 else findC (l ()) (s ())) (.cons (.bool fun _ => decide (0 <= findC (l ()) (s ()))) .nil)), [fun _ => List.length (α := CV) (l ()) <= 9223372036854775807])) Fs1
theorem Fs2_ok : TableOK Tryz.prog G0 Fs2 := addS_ok qf76.callable (fun nm pr po l s h => find_ok (nm (), pr (), po (), l (), ()) (s ()) h.1) Fs1_ok
def sumL2 (l : List VV) : Option V3 := sumL (l : List shV.val) (0, 0, 0)
def sumsB (l : List CV) : Bool := (sumL2 (l.map cReq)).isSome && (sumL2 (l.map cLim)).isSome
structure SuX where
 i : Nat
 ws : List VV
 vs : List VV
def suA (l : List CV) (x : SuX) : Env := [(16, .int .i64 fun _ => (x.i : Int)), (15, .int .i64 fun _ => (l.length : Int)), (14, Sh.mkL 10 shC fun _ => l), (5, .slice (some 3) 3 (fun _ => (x.ws.length : Int)) fun j => shVe.mk fun _ => (x.ws : List shVe.val).getD (j ()).toNat shVe.dflt), (6, .slice (some 4) 3 (fun _ => (x.vs.length : Int)) fun j => shVe.mk fun _ => (x.vs : List shVe.val).getD (j ()).toNat shVe.dflt), (3, .ptr 2 0), (2, .ptr 1 0)]
def suS : Store := [(1, .var zV), (2, .var zV), (3, .own 3 45), (4, .own 3 45)]
def ren34 : Nat -> Nat := fun i => bif beqN i 3 then 6 else bif beqN i 4 then 7 else i
def suP (l : List CV) : PV := .tuple (.cons (vP ((sumL2 (l.map cReq)).getD (0, 0, 0)).1 ((sumL2 (l.map cReq)).getD (0, 0, 0)).2.1 ((sumL2 (l.map cReq)).getD (0, 0, 0)).2.2) (.cons (vP ((sumL2 (l.map cLim)).getD (0, 0, 0)).1 ((sumL2 (l.map cLim)).getD (0, 0, 0)).2.1 ((sumL2 (l.map cLim)).getD (0, 0, 0)).2.2) (.cons (.bool fun _ => sumsB l) .nil)))
theorem take_map {α : Type} (f : CV -> α) {l : List CV} {i : Nat} (h : i < l.length) : (l.take (i + 1)).map f = (l.take i).map f ++ [f (l.getD i c0)] := by
 rw [List.take_add_one, List.getElem?_eq_getElem h, List.map_append, List.getD_eq_getElem?_getD, List.getElem?_eq_getElem h]
 rfl
theorem sums_ok (p : PoV) (hl : p.2.2.2.1.length <= 100000) : PF 78 (.cons (podP p) .nil) (suP p.2.2.2.1) := by
 obtain ⟨nm, pr, po, l, _⟩ := p
 have hl : l.length <= 100000 := hl
 refine tX qf78 Fs2_ok (.any) rfl ?_
 conv => arg 5; cbv
 refine run_own (A := _) 5 3 45 zV (by rfl) (by rfl) (by rfl) ?_
 refine run_own (A := _) 6 3 45 zV (by rfl) (by rfl) (by rfl) ?_
 refine run_inv (ι := SuX) (fun x => l.length - x.i) (fun x => x.i <= l.length /\ x.ws = (l.take x.i).map cReq /\ x.vs = (l.take x.i).map cLim) (suA l) (fun _ => suS) 5 ⟨0, [], []⟩ (fun i => i) (by rfl) (by rfl) ⟨Nat.zero_le _, rfl, rfl⟩ ?_ ⟨iR, iR, iR, ⟨.inr rfl, rfl, rfl, fun j h0 h1 => absurd h1 (by show ¬ j < 0; omega)⟩, ⟨.inr rfl, rfl, rfl, fun j h0 h1 => absurd h1 (by show ¬ j < 0; omega)⟩, iR, iR, trivial⟩ ⟨iR, iR, ⟨rfl, rfl⟩, ⟨rfl, rfl⟩, trivial⟩
 rintro ⟨i, ws, vs⟩ ⟨hi, hw, hv⟩ ih
 dsimp only at hi hw hv
 have hwl : ws.length <= i := by rw [hw, List.length_map, List.length_take]; omega
 have hvl : vs.length <= i := by rw [hv, List.length_map, List.length_take]; omega
 refine bX Fs2_ok (.any) _ rfl ?_
 conv => arg 5; cbv
 refine ⟨fun h => ?_, fun h => ?_⟩
 ·have h : (i : Int) < (l.length : Int) := of_decide_eq_true h
  have hi2 : i < l.length := by omega
  have hw8 : IntKind.i64.wrap ((i : Int) + 1) = ((i + 1 : Nat) : Int) := by rw [IntWalk.i64_in _ ⟨by omega, by omega⟩]; omega
  refine ⟨⟨⟨Int.natCast_nonneg i, h⟩, ?_, ?_, (by show drawOK _ _ = true; decide +kernel), trivial⟩, ?_⟩
  ·show (0 : Int) < 1 /\ ((ws.length : Int) + 1) * 24 <= 140737488355328
   omega
  ·show (0 : Int) < 1 /\ ((vs.length : Int) + 1) * 24 <= 140737488355328
   omega
  refine ih ⟨i + 1, ws ++ [cReq (l.getD i c0)], vs ++ [cLim (l.getD i c0)]⟩ ren34 ⟨by dsimp only; omega, ?_, ?_⟩ (by dsimp only; omega) (by rfl) ⟨⟨rfl, hw8⟩, iR, iR, push_imp shVe (some 6) 3 ws (cReq (l.getD i c0)), push_imp shVe (some 7) 3 vs (cLim (l.getD i c0)), iR, iR, trivial⟩ ⟨iR, iR, ⟨rfl, rfl⟩, ⟨rfl, rfl⟩, trivial⟩
  ·show ws ++ _ = (l.take (i + 1)).map cReq
   rw [take_map cReq hi2, hw]
  ·show vs ++ _ = (l.take (i + 1)).map cLim
   rw [take_map cLim hi2, hv]
 ·have h : ¬ (i : Int) < (l.length : Int) := of_decide_eq_false h
  have e : i = l.length := by omega
  rw [e, List.take_length] at hw hv
  have e1 : (rdL shV.rd (fun _ => (ws.length : Int)) fun j => shVe.mk fun _ => (ws : List shVe.val).getD (j ()).toNat shVe.dflt) = l.map cReq := (rdL_mkL shV ws).trans hw
  have e2 : (rdL shV.rd (fun _ => (vs.length : Int)) fun j => shVe.mk fun _ => (vs : List shVe.val).getD (j ()).toNat shVe.dflt) = l.map cLim := (rdL_mkL shV vs).trans hv
  have l1 : (rdL shV.rd (fun _ => (ws.length : Int)) fun j => shVe.mk fun _ => (ws : List shVe.val).getD (j ()).toNat shVe.dflt).length < 9223372036854775807 := by
   rw [rdL_len]; show ((ws.length : Nat) : Int).toNat < _; omega
  have l2 : (rdL shV.rd (fun _ => (vs.length : Int)) fun j => shVe.mk fun _ => (vs : List shVe.val).getD (j ()).toNat shVe.dflt).length < 9223372036854775807 := by
   rw [rdL_len]; show ((vs.length : Nat) : Int).toNat < _; omega
  refine ⟨⟨l1, fun j => fits_of_mk shV _, l2, fun j => fits_of_mk shV _, trivial⟩, fun h1 => ⟨⟨(by show drawOK _ _ = true; decide +kernel), trivial⟩, rfl, ?_⟩, fun h1 => ⟨⟨(by show drawOK _ _ = true; decide +kernel), trivial⟩, rfl, ?_⟩⟩
  all_goals
   refine ⟨⟨⟨rfl, congrArg (fun q : List shV.val => ((sumL q (0, 0, 0)).getD (0, 0, 0)).1) e1⟩, ⟨rfl, congrArg (fun q : List shV.val => ((sumL q (0, 0, 0)).getD (0, 0, 0)).2.1) e1⟩, ⟨rfl, congrArg (fun q : List shV.val => ((sumL q (0, 0, 0)).getD (0, 0, 0)).2.2) e1⟩, rfl⟩, ⟨⟨rfl, congrArg (fun q : List shV.val => ((sumL q (0, 0, 0)).getD (0, 0, 0)).1) e2⟩, ⟨rfl, congrArg (fun q : List shV.val => ((sumL q (0, 0, 0)).getD (0, 0, 0)).2.1) e2⟩, ⟨rfl, congrArg (fun q : List shV.val => ((sumL q (0, 0, 0)).getD (0, 0, 0)).2.2) e2⟩, rfl⟩, ?_, rfl⟩
  ·have h1 : (sumL2 (l.map cReq)).isSome = true := (congrArg (fun q : List shV.val => (sumL q (0, 0, 0)).isSome) e1).symm.trans h1
   have h2 := congrArg (fun q : List shV.val => (sumL q (0, 0, 0)).isSome) e2
   refine h2.trans ?_
   show (sumL2 (l.map cLim)).isSome = sumsB l
   unfold sumsB
   rw [h1, Bool.true_and]
  ·have h1 : (sumL2 (l.map cReq)).isSome = false := (congrArg (fun q : List shV.val => (sumL q (0, 0, 0)).isSome) e1).symm.trans h1
   show sumsB l = false
   unfold sumsB
   rw [h1]; rfl
noncomputable def Fs3 : Table := addS 78 (.cons shP .nil) (fun nm pr po l => (.tuple (.cons (.agg (.cons (.int .i64 fun _ => ((sumL2 (List.map (α := CV) cReq (l ()))).getD (0, 0, 0)).1) (.cons (.int .i64 fun _ => ((sumL2 (List.map (α := CV) cReq (l ()))).getD (0, 0, 0)).2.1) (.cons (.int .i64 fun _ => ((sumL2 (List.map (α := CV) cReq (l ()))).getD (0, 0, 0)).2.2) .nil)))) (.cons (.agg (.cons (.int .i64 fun _ => ((sumL2 (List.map (α := CV) cLim (l ()))).getD (0, 0, 0)).1) (.cons (.int .i64 fun _ => ((sumL2 (List.map (α := CV) cLim (l ()))).getD (0, 0, 0)).2.1) (.cons (.int .i64 fun _ => ((sumL2 (List.map (α := CV) cLim (l ()))).getD (0, 0, 0)).2.2) .nil)))) (.cons (.bool fun _ => sumsB (l ())) .nil))), [fun _ => List.length (α := CV) (l ()) <= 100000])) Fs2
theorem Fs3_ok : TableOK Tryz.prog G0 Fs3 := addS_ok qf78.callable (fun nm pr po l h => sums_ok (nm (), pr (), po (), l (), ()) h.1) Fs2_ok
def consB (l : List CV) : Bool := (List.range l.length).all fun j => decide (findC l (l.getD j c0).1 = (j : Int)) && contB (l.getD j c0)
def podB (p : PoV) : Bool := nameB p.1 && (decide (-1000 <= p.2.1) && decide (p.2.1 <= 1000)) && (decide (0 <= p.2.2.1) && decide (p.2.2.1 <= 2)) && (decide (1 <= p.2.2.2.1.length) && decide (p.2.2.2.1.length <= 6)) && consB p.2.2.2.1 && sumsB p.2.2.2.1
def PodI (nm : ByteArray) (pr po : Int) (l : List CV) : Prop := nameB nm = true /\ (-1000 <= pr /\ pr <= 1000) /\ (0 <= po /\ po <= 2) /\ (1 <= l.length /\ l.length <= 6) /\ (∀ j, j < l.length -> findC l (l.getD j c0).1 = (j : Int) /\ contB (l.getD j c0) = true) /\ sumsB l = true
theorem podB_iff {nm : ByteArray} {pr po : Int} {l : List CV} {u : Unit} : podB (nm, pr, po, l, u) = true ↔ PodI nm pr po l := by
 unfold podB consB PodI
 simp only [Bool.and_eq_true, decide_eq_true_eq, List.all_eq_true, List.mem_range]
 constructor
 ·rintro ⟨⟨⟨⟨⟨h1, h2⟩, h3⟩, h4⟩, h5⟩, h6⟩
  exact ⟨h1, h2, h3, h4, h5, h6⟩
 ·rintro ⟨h1, h2, h3, h4, h5, h6⟩
  exact ⟨⟨⟨⟨⟨h1, h2⟩, h3⟩, h4⟩, h5⟩, h6⟩
theorem podB_no {nm : ByteArray} {pr po : Int} {l : List CV} {u : Unit} (h : ¬ PodI nm pr po l) : podB (nm, pr, po, l, u) = false := by
 cases hb : podB (nm, pr, po, l, u) with
 | true => exact absurd (podB_iff.1 hb) h
 | false => rfl
theorem findC_self {l : List CV} {i : Nat} (hi : i < l.length) : 0 <= findC l (l.getD i c0).1 := by
 unfold findC
 cases h : idxC (l.getD i c0).1 l 0 with
 | some j => exact Int.natCast_nonneg j
 | none =>
   refine absurd rfl (idxC_none.1 h (l.getD i c0) ?_)
   rw [List.getD_eq_getElem?_getD, List.getElem?_eq_getElem hi]
   exact List.getElem_mem hi
theorem rd_list (l : List CV) : (rdL shC.rd (fun _ => (l.length : Int)) fun j => shC.mk fun _ => (l : List shC.val).getD (j ()).toNat shC.dflt) = l := rdL_mkL shC l
def poA (p : PoV) (i : Nat) : Env := [(49, .int .i64 fun _ => (i : Int)), (48, .int .i64 fun _ => (p.2.2.2.1.length : Int)), (47, Sh.mkL 10 shC fun _ => p.2.2.2.1), (1, .ptr 0 0), (0, podP p)]
def poS (p : PoV) : Store := [(0, .var (podP p))]
set_option maxHeartbeats 1000000 in
theorem pod_ok (p : PoV) : PF 53 (.cons (podP p) .nil) (.bool fun _ => podB p) := by
 obtain ⟨nm, pr, po, l, u⟩ := p
 refine tX qf53 Fs3_ok (.any) rfl ?_
 conv => arg 5; cbv
 refine ⟨fun h1 => ⟨rfl, podB_no fun k => ?_⟩, fun h1 => ⟨fun h2 => ⟨rfl, podB_no fun k => ?_⟩, fun h2 => ⟨fun h3 => ⟨rfl, podB_no fun k => ?_⟩, fun h3 => ⟨fun h4 => ⟨rfl, podB_no fun k => ?_⟩, fun h4 => ⟨fun h5 => ⟨rfl, podB_no fun k => ?_⟩, fun h5 => ⟨fun h6 => ⟨rfl, podB_no fun k => ?_⟩, fun h6 => ⟨fun h7 => ⟨rfl, podB_no fun k => ?_⟩, fun h7 => ?_⟩⟩⟩⟩⟩⟩⟩
 ·have h1 : (!nameB nm) = true := h1
  rw [k.1] at h1; cases h1
 ·have h2 : pr < -1000 := of_decide_eq_true h2
  have := k.2.1; omega
 ·have h3 : 1000 < pr := of_decide_eq_true h3
  have := k.2.1; omega
 ·have h4 : po < 0 := of_decide_eq_true h4
  have := k.2.2.1; omega
 ·have h5 : 2 < po := of_decide_eq_true h5
  have := k.2.2.1; omega
 ·have h6 : (l.length : Int) < 1 := of_decide_eq_true h6
  have := k.2.2.2.1; omega
 ·have h7 : 6 < (l.length : Int) := of_decide_eq_true h7
  have := k.2.2.2.1; omega
 have h1 : nameB nm = true := by have h1 : (!nameB nm) = false := h1; simpa using h1
 have h2 : ¬ pr < -1000 := of_decide_eq_false h2
 have h3 : ¬ 1000 < pr := of_decide_eq_false h3
 have h4 : ¬ po < 0 := of_decide_eq_false h4
 have h5 : ¬ 2 < po := of_decide_eq_false h5
 have h6 : ¬ (l.length : Int) < 1 := of_decide_eq_false h6
 have h7 : ¬ 6 < (l.length : Int) := of_decide_eq_false h7
 refine run_inv (ι := Nat) (fun i => l.length - i) (fun i => i <= l.length /\ ∀ j, j < i -> findC l (l.getD j c0).1 = (j : Int) /\ contB (l.getD j c0) = true) (poA (nm, pr, po, l, u)) (fun _ => poS (nm, pr, po, l, u)) 1 0 (fun i => i) (by rfl) (by rfl) ⟨Nat.zero_le _, fun j hj => by omega⟩ ?_ ⟨iR, iR, iR, iR, iR, trivial⟩ ⟨iR, trivial⟩
 intro i hi ih
 refine bX Fs3_ok (.any) _ rfl ?_
 conv => arg 5; cbv
 have e := rd_list l
 have l1 : (rdL shC.rd (fun _ => (l.length : Int)) fun j => shC.mk fun _ => (l : List shC.val).getD (j ()).toNat shC.dflt).length <= 100000 := by
  rw [rdL_len]; show ((l.length : Nat) : Int).toNat <= _; omega
 refine ⟨fun h => ?_, fun h => ?_⟩
 ·have h : (i : Int) < (l.length : Int) := of_decide_eq_true h
  have hi2 : i < l.length := by omega
  have hw : IntKind.i64.wrap ((i : Int) + 1) = ((i + 1 : Nat) : Int) := by rw [IntWalk.i64_in _ ⟨by omega, by omega⟩]; omega
  have hs := findC_self hi2
  have key : ∀ b : Bool, ((if findC (rdL shC.rd (fun _ => (l.length : Int)) fun j => shC.mk fun _ => (l : List shC.val).getD (j ()).toNat shC.dflt) (l.getD i c0).1 < 0 then 0 else findC (rdL shC.rd (fun _ => (l.length : Int)) fun j => shC.mk fun _ => (l : List shC.val).getD (j ()).toNat shC.dflt) (l.getD i c0).1) != (i : Int)) = b -> (findC l (l.getD i c0).1 != (i : Int)) = b := fun b hb => by
   have := congrArg (fun q => ((if findC q (l.getD i c0).1 < 0 then 0 else findC q (l.getD i c0).1) != (i : Int))) e
   have this : ((if findC l (l.getD i c0).1 < 0 then 0 else findC l (l.getD i c0).1) != (i : Int)) = b := this.symm.trans hb
   rwa [if_neg (by omega)] at this
  refine ⟨⟨⟨Int.natCast_nonneg i, h⟩, Nat.le_trans l1 (by omega), fun j => fits_of_mk shC _, trivial⟩, fun g => ⟨rfl, podB_no fun k => ?_⟩, fun g => ⟨fun g2 => ⟨rfl, podB_no fun k => ?_⟩, fun g2 => ?_⟩⟩
  ·have g := key true g
   rw [(k.2.2.2.2.1 i hi2).1] at g
   simp at g
  ·have g2 : (!contB (l.getD i c0)) = true := g2
   rw [(k.2.2.2.2.1 i hi2).2] at g2
   cases g2
  ·have g := key false g
   have g : findC l (l.getD i c0).1 = (i : Int) := by simpa using g
   have g2 : (!contB (l.getD i c0)) = false := g2
   have g2 : contB (l.getD i c0) = true := by simpa using g2
   refine ih (i + 1) (fun i => i) ⟨by omega, fun j hj => ?_⟩ (by omega) (by rfl) ⟨⟨rfl, hw⟩, iR, iR, iR, iR, trivial⟩ ⟨iR, trivial⟩
   by_cases ej : j < i
   ·exact hi.2 j ej
   ·obtain rfl : j = i := by omega
    exact ⟨g, g2⟩
 ·have h : ¬ (i : Int) < (l.length : Int) := of_decide_eq_false h
  have hall : ∀ j, j < l.length -> findC l (l.getD j c0).1 = (j : Int) /\ contB (l.getD j c0) = true := fun j hj => hi.2 j (by omega)
  refine ⟨⟨l1, fun j => fits_of_mk shC _, trivial⟩, rfl, ?_⟩
  refine (congrArg sumsB e).trans ?_
  rw [Bool.eq_iff_iff, podB_iff]
  exact ⟨fun k => ⟨h1, by omega, by omega, by omega, hall, k⟩, fun k => k.2.2.2.2.2⟩
end Go.Proofs.YtpbjcabecalpaaaGreatDoor
