/- VECTORS: numbers. -/
import Derived.Test.YtdikfhjpnfffnacDoorVcG
import Derived.Test.YtdikfhjpnfffnacDoorLibJ
import Derived.Test.YtdikfhjpnfffnacDoorLibB
set_option maxRecDepth 2000
set_option linter.unusedVariables false
set_option linter.unusedSimpArgs false
set_option linter.unusedVariables false
set_option linter.unusedSimpArgs false
namespace Go.Proofs.YtdikfhjpnfffnacDoor
open Go Go.Abs Go.Proofs
def vP (c m h : Int) : PV := .agg (.cons (.int .i64 fun _ => c) (.cons (.int .i64 fun _ => m) (.cons (.int .i64 fun _ => h) .nil)))
def shV : Sh := .agg (.cons (.int .i64) (.cons (.int .i64) (.cons (.int .i64) .nil)))
theorem parts_okv (c m h : Int) : PF 25 (.cons (vP c m h) .nil) (.arrI .i64 3 fun _ => [c, m, h]) := by
  refine (⟨Tryd.func25, rfl, rfl, rfl, ⟨rfl, rfl⟩, ok _⟩ : FN 25 Tryd.f25).tree (mkO_ok F0_ok) false 40 rfl ?_
  conv => arg 5; cbv
  exact ⟨rfl, rfl, rfl, rfl⟩
theorem of_okv (c m h : Int) : PF 34 (.cons (.arrI .i64 3 fun _ => [c, m, h]) .nil) (vP c m h) := by
  refine (⟨Tryd.func34, rfl, rfl, rfl, ⟨rfl, rfl⟩, ok _⟩ : FN 34 Tryd.f34).tree (mkO_ok F0_ok) false 40 rfl ?_
  conv => arg 5; cbv
  exact ⟨rfl, ⟨rfl, rfl⟩, ⟨rfl, rfl⟩, ⟨rfl, rfl⟩, rfl⟩
theorem names_ok : PF 31 .nil (.arrS 3 fun _ => [toB sCpu, toB sMem, toB sHug]) := by
  refine (⟨Tryd.func31, rfl, rfl, rfl, ⟨rfl, rfl⟩, ok _⟩ : FN 31 Tryd.f31).tree (mkO_ok F0_ok) false 40 rfl ?_
  conv => arg 5; cbv
  exact ⟨rfl, rfl, rfl⟩
theorem fits_okv (r n : Int) : PF 26 (.cons (i64 r) (.cons (i64 n) .nil)) (.bool fun _ => decide (0 ≤ n ∧ n ≤ if r = 0 then 1099511627776 else 1125899906842624)) := by
  refine (⟨Tryd.func26, rfl, rfl, rfl, ⟨rfl, rfl⟩, ok _⟩ : FN 26 Tryd.f26).tree (mkO_ok F0_ok) false 40 rfl ?_
  conv => arg 5; cbv
  refine ⟨fun h => ⟨fun g => ⟨rfl, ?_⟩, fun g => ⟨rfl, ?_⟩⟩, fun h => ⟨fun g => ⟨rfl, ?_⟩, fun g => ⟨rfl, ?_⟩⟩⟩
  · have h := beqT h
    (replace g := of_decide_eq_true g); (try dsimp only at g); (try simp only [cast_fold, Int.ofNat_eq_natCast] at g)
    exact decide_eq_decide.2 (by rw [if_pos h]; exact ⟨fun k => ⟨g, k⟩, fun k => k.2⟩)
  · (replace g := of_decide_eq_false g); (try dsimp only at g); (try simp only [cast_fold, Int.ofNat_eq_natCast] at g)
    exact decide_eq_false fun k => g k.1
  · have h := beqF h
    (replace g := of_decide_eq_true g); (try dsimp only at g); (try simp only [cast_fold, Int.ofNat_eq_natCast] at g)
    exact decide_eq_decide.2 (by rw [if_neg h]; exact ⟨fun k => ⟨g, k⟩, fun k => k.2⟩)
  · (replace g := of_decide_eq_false g); (try dsimp only at g); (try simp only [cast_fold, Int.ofNat_eq_natCast] at g)
    exact decide_eq_false fun k => g k.1
theorem and63 {a b : Int} (ha : 0 ≤ a ∧ a < 9223372036854775808) : 0 ≤ bitAnd .i64 a b := by
  unfold bitAnd
  have h : (BitVec.ofInt 64 a &&& BitVec.ofInt 64 b).toNat ≤ (BitVec.ofInt 64 a).toNat := by
    rw [BitVec.toNat_and]; exact Nat.and_le_left
  have h2 : (BitVec.ofInt 64 a).toNat < 9223372036854775808 := by
    rw [BitVec.toNat_ofInt]; omega
  show 0 ≤ IntKind.i64.wrap ((BitVec.ofInt 64 a &&& BitVec.ofInt 64 b).toNat : Int)
  rw [IntWalk.i64_in _ ⟨by omega, by omega⟩]; omega
theorem xor63 {a b : Int} (ha : 0 ≤ a ∧ a < 9223372036854775808) (hb : 0 ≤ b ∧ b < 9223372036854775808) : 0 ≤ bitXor .i64 a b ∧ bitXor .i64 a b < 9223372036854775808 := by
  unfold bitXor
  have h : (BitVec.ofInt 64 a ^^^ BitVec.ofInt 64 b).toNat < 2 ^ 63 := by
    rw [BitVec.toNat_xor]
    refine Nat.xor_lt_two_pow ?_ ?_
    · rw [BitVec.toNat_ofInt]; omega
    · rw [BitVec.toNat_ofInt]; omega
  show 0 ≤ IntKind.i64.wrap ((BitVec.ofInt 64 a ^^^ BitVec.ofInt 64 b).toNat : Int) ∧ IntKind.i64.wrap ((BitVec.ofInt 64 a ^^^ BitVec.ofInt 64 b).toNat : Int) < 9223372036854775808
  rw [IntWalk.i64_in _ ⟨by omega, by omega⟩]; omega
theorem wrap_iu (n : Int) : IntKind.i64.wrap (IntKind.u64.wrap n) = IntKind.i64.wrap n := by
  have h1 : IntKind.u64.wrap n = n % 18446744073709551616 := rfl
  rw [IntKind.wrap_i64, IntKind.wrap_i64, h1]; omega
theorem cadd_ok (a b : Int) (ha : 0 ≤ a ∧ a ≤ 4611686018427387903) (hb : 0 ≤ b ∧ b ≤ 4611686018427387903) : PF 23 (.cons (i64 a) (.cons (i64 b) .nil)) (.tuple (.cons (.int .i64 fun _ => a + b) (.cons (.bool fun _ => true) .nil))) := by
  refine (⟨Tryd.func23, rfl, rfl, rfl, ⟨rfl, rfl⟩, ok _⟩ : FN 23 Tryd.f23).tree (mkO_ok F0_ok) false 40 rfl ?_
  conv => arg 5; cbv
  have hw : IntKind.i64.wrap (IntKind.u64.wrap (IntKind.u64.wrap a + IntKind.u64.wrap b)) = a + b := by
    rw [wrap_iu, IntWalk.u64_in a ⟨by omega, by omega⟩, IntWalk.u64_in b ⟨by omega, by omega⟩, IntWalk.i64_in _ ⟨by omega, by omega⟩]
  rw [hw]
  have h1 := and63 (b := bitXor .i64 b (a + b)) (xor63 (a := a) (b := a + b) (by omega) (by omega))
  refine ⟨fun h => ?_, fun h => ⟨rfl, ⟨rfl, rfl⟩, rfl, rfl⟩⟩
  (replace h := of_decide_eq_true h); (try dsimp only at h); (try simp only [cast_fold, Int.ofNat_eq_natCast] at h)
  omega
theorem csub_ok (a b : Int) (ha : 0 ≤ a ∧ a ≤ 4611686018427387903) (hb : 0 ≤ b ∧ b ≤ 4611686018427387903) : PF 24 (.cons (i64 a) (.cons (i64 b) .nil)) (.tuple (.cons (.int .i64 fun _ => a - b) (.cons (.bool fun _ => true) .nil))) := by
  refine (⟨Tryd.func24, rfl, rfl, rfl, ⟨rfl, rfl⟩, ok _⟩ : FN 24 Tryd.f24).tree (mkO_ok F0_ok) false 40 rfl ?_
  conv => arg 5; cbv
  have hw : IntKind.i64.wrap (IntKind.u64.wrap (IntKind.u64.wrap a - IntKind.u64.wrap b)) = a - b := by
    rw [wrap_iu, IntWalk.u64_in a ⟨by omega, by omega⟩, IntWalk.u64_in b ⟨by omega, by omega⟩, IntWalk.i64_in _ ⟨by omega, by omega⟩]
  rw [hw]
  have h1 := and63 (b := bitXor .i64 a (a - b)) (xor63 (a := a) (b := b) (by omega) (by omega))
  refine ⟨fun h => ?_, fun h => ⟨rfl, ⟨rfl, rfl⟩, rfl, rfl⟩⟩
  (replace h := of_decide_eq_true h); (try dsimp only at h); (try simp only [cast_fold, Int.ofNat_eq_natCast] at h)
  omega
noncomputable def Fh1 : Table := addS 25 (.cons shV .nil) (fun c m h => (.arrI .i64 3 fun _ => [c (), m (), h ()], [])) (addS 31 .nil (.arrS 3 fun _ => [toB sCpu, toB sMem, toB sHug], [])
  (addS 26 (.cons (.int .i64) (.cons (.int .i64) .nil)) (fun r n => (.bool fun _ => decide (0 ≤ n () ∧ n () ≤ if r () = 0 then 1099511627776 else 1125899906842624), []))
  (addS 34 (.cons (.arrI .i64 3) .nil) (fun l => (.agg (.cons (.int .i64 fun _ => (l ()).getD 0 0) (.cons (.int .i64 fun _ => (l ()).getD 1 0) (.cons (.int .i64 fun _ => (l ()).getD 2 0) .nil))), []))
  (addS 23 (.cons (.int .i64) (.cons (.int .i64) .nil)) (fun a b => (.tuple (.cons (.int .i64 fun _ => a () + b ()) (.cons (.bool fun _ => true) .nil)), [fun _ => (0 ≤ a () ∧ a () ≤ 4611686018427387903) ∧ 0 ≤ b () ∧ b () ≤ 4611686018427387903]))
  (addS 24 (.cons (.int .i64) (.cons (.int .i64) .nil)) (fun a b => (.tuple (.cons (.int .i64 fun _ => a () - b ()) (.cons (.bool fun _ => true) .nil)), [fun _ => (0 ≤ a () ∧ a () ≤ 4611686018427387903) ∧ 0 ≤ b () ∧ b () ≤ 4611686018427387903])) Fg6)))))
theorem list3 {l : List Int} (h : l.length = 3) : l = [l.getD 0 0, l.getD 1 0, l.getD 2 0] := by
  match l, h with
  | [a, b, c], _ => rfl
theorem Fh1_ok : TableOK Tryd.prog G0 Fh1 := addS_ok (⟨Tryd.func25, rfl, rfl, rfl, ⟨rfl, rfl⟩, ok _⟩ : FN 25 Tryd.f25).callable (fun c m h _ => parts_okv (c ()) (m ()) (h ())) (addS_ok (⟨Tryd.func31, rfl, rfl, rfl, ⟨rfl, rfl⟩, ok _⟩ : FN 31 Tryd.f31).callable (fun _ => names_ok)
  (addS_ok (⟨Tryd.func26, rfl, rfl, rfl, ⟨rfl, rfl⟩, ok _⟩ : FN 26 Tryd.f26).callable (fun r n _ => fits_okv (r ()) (n ())) (addS_ok (⟨Tryd.func34, rfl, rfl, rfl, ⟨rfl, rfl⟩, ok _⟩ : FN 34 Tryd.f34).callable (fun l hl _ => by
    have := of_okv ((l ()).getD 0 0) ((l ()).getD 1 0) ((l ()).getD 2 0)
    rwa [← list3 hl] at this)
  (addS_ok (⟨Tryd.func23, rfl, rfl, rfl, ⟨rfl, rfl⟩, ok _⟩ : FN 23 Tryd.f23).callable (fun a b c => cadd_ok (a ()) (b ()) c.1.1 c.1.2) (addS_ok (⟨Tryd.func24, rfl, rfl, rfl, ⟨rfl, rfl⟩, ok _⟩ : FN 24 Tryd.f24).callable (fun a b c => csub_ok (a ()) (b ()) c.1.1 c.1.2) Fg6_ok)))))
theorem and_huge {h : Int} (h0 : 0 ≤ h ∧ h ≤ 1125899906842624) : bitAnd .i64 h 2097151 = h % 2097152 := by
  obtain ⟨n, rfl⟩ : ∃ n : Nat, h = n := ⟨h.toNat, by omega⟩
  unfold bitAnd
  have e : (BitVec.ofInt 64 (n : Int) &&& BitVec.ofInt 64 2097151).toNat = n % 2097152 := by
    rw [BitVec.toNat_and, ofInt_nat, BitVec.toNat_ofNat, show (BitVec.ofInt 64 2097151).toNat = 2097151 from rfl, Nat.mod_eq_of_lt (by omega)]
    exact Nat.and_two_pow_sub_one_eq_mod n 21
  show IntKind.i64.wrap ((BitVec.ofInt 64 (n : Int) &&& BitVec.ofInt 64 2097151).toNat : Int) = _
  rw [e, IntWalk.i64_in _ ⟨by omega, by omega⟩]
  omega
theorem vRight_iff {c m h : Int} : vRight c m h = true ↔ (0 ≤ c ∧ c ≤ 1099511627776) ∧ (0 ≤ m ∧ m ≤ 1125899906842624) ∧ (0 ≤ h ∧ h ≤ 1125899906842624) ∧ h % 2097152 = 0 := by
  unfold vRight; rw [decide_eq_true_eq]; omega
theorem vRight_no {c m h : Int} (k : ¬ ((0 ≤ c ∧ c ≤ 1099511627776) ∧ (0 ≤ m ∧ m ≤ 1125899906842624) ∧ (0 ≤ h ∧ h ≤ 1125899906842624) ∧ h % 2097152 = 0)) : vRight c m h = false := by
  rw [Bool.eq_false_iff]; exact fun hc => k (vRight_iff.1 hc)
theorem right_okv (c m h : Int) : PF 10 (.cons (vP c m h) .nil) (.bool fun _ => vRight c m h) := by
  refine (⟨Tryd.func10, rfl, rfl, rfl, ⟨rfl, rfl⟩, ok _⟩ : FN 10 Tryd.f10).treeS (mkO_ok Fh1_ok) true 40 (.yes (.both .any (.yes (.both .any (.yes (.both .any (.no .any))))))) rfl ?_
  conv => arg 5; cbv
  have nt : ∀ {p : Prop} [Decidable p], (!decide p) = true → ¬ p := fun h => by simpa using h
  have nf : ∀ {p : Prop} [Decidable p], (!decide p) = false → p := fun h => by simpa using h
  refine ⟨⟨by decide, trivial⟩, ⟨by decide, trivial⟩, fun g => ⟨rfl, ?_⟩, fun g => ⟨⟨by decide, trivial⟩, ⟨by decide, trivial⟩, fun g2 => ⟨rfl, ?_⟩, fun g2 => ⟨⟨by decide, trivial⟩, ⟨by decide, trivial⟩, fun g3 => ⟨rfl, ?_⟩, fun g3 => ⟨⟨by decide, trivial⟩, rfl, ?_⟩⟩⟩⟩
  · have g : ¬ (0 ≤ c ∧ c ≤ 1099511627776) := nt g
    exact vRight_no fun k => g k.1
  · have g2 : ¬ (0 ≤ m ∧ m ≤ 1125899906842624) := nt g2
    exact vRight_no fun k => g2 k.2.1
  · have g3 : ¬ (0 ≤ h ∧ h ≤ 1125899906842624) := nt g3
    exact vRight_no fun k => g3 k.2.2.1
  · have g : (0 ≤ c ∧ c ≤ 1099511627776) := nf g
    have g2 : (0 ≤ m ∧ m ≤ 1125899906842624) := nf g2
    have g3 : (0 ≤ h ∧ h ≤ 1125899906842624) := nf g3
    show (bitAnd .i64 h 2097151 == 0) = vRight c m h
    rw [and_huge g3, Bool.eq_iff_iff, vRight_iff, beq_iff_eq]
    exact ⟨fun k => ⟨g, g2, g3, k⟩, fun k => k.2.2.2⟩
theorem at_okv (c m h r : Int) : PF 14 (.cons (vP c m h) (.cons (i64 r) .nil)) (.int .i64 fun _ => if r = 0 then c else if r = 1 then m else if r = 2 then h else 0) := by
  refine (⟨Tryd.func14, rfl, rfl, rfl, ⟨rfl, rfl⟩, ok _⟩ : FN 14 Tryd.f14).tree (mkO_ok Fh1_ok) false 40 rfl ?_
  conv => arg 5; cbv
  refine ⟨fun g => ⟨rfl, rfl, ?_⟩, fun g => ⟨fun g2 => ⟨rfl, rfl, ?_⟩, fun g2 => ⟨⟨?_, trivial⟩, rfl, rfl, ?_⟩⟩⟩
  · (replace g := of_decide_eq_true g); (try dsimp only at g); (try simp only [cast_fold, Int.ofNat_eq_natCast] at g)
    dsimp only
    rw [if_neg (by omega), if_neg (by omega), if_neg (by omega)]
  · (replace g2 := of_decide_eq_true g2); (try dsimp only at g2); (try simp only [cast_fold, Int.ofNat_eq_natCast] at g2)
    dsimp only
    rw [if_neg (by omega), if_neg (by omega), if_neg (by omega)]
  · (replace g := of_decide_eq_false g); (try dsimp only at g); (try simp only [cast_fold, Int.ofNat_eq_natCast] at g)
    (replace g2 := of_decide_eq_false g2); (try dsimp only at g2); (try simp only [cast_fold, Int.ofNat_eq_natCast] at g2)
    exact ⟨(by (try dsimp only); (try simp only [cast_fold, Int.ofNat_eq_natCast]); omega), (by (try dsimp only); (try simp only [cast_fold, Int.ofNat_eq_natCast]); omega)⟩
  · (replace g := of_decide_eq_false g); (try dsimp only at g); (try simp only [cast_fold, Int.ofNat_eq_natCast] at g)
    (replace g2 := of_decide_eq_false g2); (try dsimp only at g2); (try simp only [cast_fold, Int.ofNat_eq_natCast] at g2)
    have : r = 0 ∨ r = 1 ∨ r = 2 := by omega
    rcases this with rfl | rfl | rfl <;> rfl
theorem with_okv (c m h r n : Int) : PF 15 (.cons (vP c m h) (.cons (i64 r) (.cons (i64 n) .nil))) (vP (if r = 0 then n else c) (if r = 1 then n else m) (if r = 2 then n else h)) := by
  refine (⟨Tryd.func15, rfl, rfl, rfl, ⟨rfl, rfl⟩, ok _⟩ : FN 15 Tryd.f15).tree (mkO_ok Fh1_ok) false 40 rfl ?_
  conv => arg 5; cbv
  refine ⟨fun g => ⟨rfl, ⟨rfl, ?_⟩, ⟨rfl, ?_⟩, ⟨rfl, ?_⟩, rfl⟩, fun g => ⟨fun g2 => ⟨rfl, ⟨rfl, ?_⟩, ⟨rfl, ?_⟩, ⟨rfl, ?_⟩, rfl⟩, fun g2 => ⟨⟨?_, ?_, trivial⟩, rfl, ?_⟩⟩⟩
  all_goals first | ((replace g := of_decide_eq_true g); (try dsimp only at g); (try simp only [cast_fold, Int.ofNat_eq_natCast] at g)
                     exact (if_neg (by omega)).symm) | skip
  all_goals first | ((replace g2 := of_decide_eq_true g2); (try dsimp only at g2); (try simp only [cast_fold, Int.ofNat_eq_natCast] at g2)
                     exact (if_neg (by omega)).symm) | skip
  all_goals
    (replace g := of_decide_eq_false g); (try dsimp only at g); (try simp only [cast_fold, Int.ofNat_eq_natCast] at g)
    (replace g2 := of_decide_eq_false g2); (try dsimp only at g2); (try simp only [cast_fold, Int.ofNat_eq_natCast] at g2)
  · exact ⟨(by (try dsimp only); (try simp only [cast_fold, Int.ofNat_eq_natCast]); omega), (by (try dsimp only); (try simp only [cast_fold, Int.ofNat_eq_natCast]); omega)⟩
  · exact ⟨(by (try dsimp only); (try simp only [cast_fold, Int.ofNat_eq_natCast]); omega), (by (try dsimp only); (try simp only [cast_fold, Int.ofNat_eq_natCast]); omega)⟩
  · have : r = 0 ∨ r = 1 ∨ r = 2 := by omega
    rcases this with rfl | rfl | rfl <;> exact ⟨⟨rfl, rfl⟩, ⟨rfl, rfl⟩, ⟨rfl, rfl⟩, rfl⟩
noncomputable def Fh2 : Table := addS 10 (.cons shV .nil) (fun c m h => (.bool fun _ => vRight (c ()) (m ()) (h ()), []))
  (addS 14 (.cons shV (.cons (.int .i64) .nil)) (fun c m h r => (.int .i64 fun _ => if r () = 0 then c () else if r () = 1 then m () else if r () = 2 then h () else 0, []))
  (addS 15 (.cons shV (.cons (.int .i64) (.cons (.int .i64) .nil))) (fun c m h r n => (.agg (.cons (.int .i64 fun _ => if r () = 0 then n () else c ()) (.cons (.int .i64 fun _ => if r () = 1 then n () else m ()) (.cons (.int .i64 fun _ => if r () = 2 then n () else h ()) .nil))), [])) Fh1))
theorem Fh2_ok : TableOK Tryd.prog G0 Fh2 := addS_ok (⟨Tryd.func10, rfl, rfl, rfl, ⟨rfl, rfl⟩, ok _⟩ : FN 10 Tryd.f10).callable (fun c m h _ => right_okv (c ()) (m ()) (h ())) (addS_ok (⟨Tryd.func14, rfl, rfl, rfl, ⟨rfl, rfl⟩, ok _⟩ : FN 14 Tryd.f14).callable (fun c m h r _ => at_okv (c ()) (m ()) (h ()) (r ())) (addS_ok (⟨Tryd.func15, rfl, rfl, rfl, ⟨rfl, rfl⟩, ok _⟩ : FN 15 Tryd.f15).callable (fun c m h r n _ => with_okv (c ()) (m ()) (h ()) (r ()) (n ())) Fh1_ok))
def zV : PV := vP 0 0 0
def okAdd (a b c d e f : Int) : Bool := vRight a b c && vRight d e f && vRight (a + d) (b + e) (c + f)
def vAdd (a b c d e f : Int) : PV := .tuple (.cons (.agg (.cons (.int .i64 fun _ => if okAdd a b c d e f = true then a + d else 0) (.cons (.int .i64 fun _ => if okAdd a b c d e f = true then b + e else 0) (.cons (.int .i64 fun _ => if okAdd a b c d e f = true then c + f else 0) .nil)))) (.cons (.bool fun _ => okAdd a b c d e f) .nil))
theorem vAdd_no {a b c d e f : Int} (h : okAdd a b c d e f = false) : impP (.tuple (.cons zV (.cons .ff .nil))) (vAdd a b c d e f) := by
  unfold vAdd
  rw [h]
  exact ⟨⟨⟨rfl, rfl⟩, ⟨rfl, rfl⟩, ⟨rfl, rfl⟩, rfl⟩, rfl, rfl⟩
theorem bothAdd_ok (a b c d e f : Int) : PF 22 (.cons (vP a b c) (.cons (vP d e f) (.cons (.func (.func 23) .nil .nil) .nil))) (vAdd a b c d e f) := by
  refine (⟨Tryd.func22, rfl, rfl, rfl, ⟨rfl, rfl⟩, ok _⟩ : FN 22 Tryd.f22).treeS (mkO_ok Fh2_ok) true 40 (.both .any (.both .any (.yes (.yes (.yes (.no .any)))))) rfl ?_
  conv => arg 5; cbv
  have w1 : IntKind.i64.wrap (0 + 1) = 1 := by decide
  have w2 : IntKind.i64.wrap (1 + 1) = 2 := by decide
  have w3 : IntKind.i64.wrap (2 + 1) = 3 := by decide
  simp only [w1, w2, w3]
  have hi : ∀ k : Int, 0 ≤ k ∧ k < 3 → 0 ≤ k ∧ k < ((3 : Nat) : Int) := fun k h => h
  have i0 : 0 ≤ (0 : Int) ∧ (0 : Int) < ((3 : Nat) : Int) := by decide
  have i1 : 0 ≤ (1 : Int) ∧ (1 : Int) < ((3 : Nat) : Int) := by decide
  have i2 : 0 ≤ (2 : Int) ∧ (2 : Int) < ((3 : Nat) : Int) := by decide
  refine ⟨fun g => ⟨rfl, vAdd_no ?_⟩, fun g => ⟨fun g2 => ⟨rfl, vAdd_no ?_⟩, fun g2 => ?_⟩⟩
  · have g : vRight a b c = false := by simpa using g
    unfold okAdd; rw [g]; rfl
  · have g2 : vRight d e f = false := by simpa using g2
    unfold okAdd; rw [g2, Bool.and_false]; rfl
  have g : vRight a b c = true := by simpa using g
  have g2 : vRight d e f = true := by simpa using g2
  have r1 := vRight_iff.1 g
  have r2 := vRight_iff.1 g2
  have k0 : (0 ≤ a ∧ a ≤ 4611686018427387903) ∧ 0 ≤ d ∧ d ≤ 4611686018427387903 := by omega
  have k1 : (0 ≤ b ∧ b ≤ 4611686018427387903) ∧ 0 ≤ e ∧ e ≤ 4611686018427387903 := by omega
  have k2 : (0 ≤ c ∧ c ≤ 4611686018427387903) ∧ 0 ≤ f ∧ f ≤ 4611686018427387903 := by omega
  refine ⟨⟨(by show drawOK _ _ = true; decide +kernel), trivial⟩, ⟨by decide, trivial⟩, ⟨i0, i0, i0, i0, k0, i0, i0, (by show drawOK _ _ = true; decide +kernel), trivial⟩, ⟨by decide, trivial⟩, ⟨i1, i1, i1, i1, k1, i1, i1, (by show drawOK _ _ = true; decide +kernel), trivial⟩, ⟨by decide, trivial⟩, ⟨i2, i2, i2, i2, k2, i2, i2, (by show drawOK _ _ = true; decide +kernel), trivial⟩, ⟨by decide, trivial⟩, fun h => ⟨rfl, ?_⟩, fun h => ⟨rfl, vAdd_no ?_⟩⟩
  · have h : vRight (a + d) (b + e) (c + f) = true := h
    have hok : okAdd a b c d e f = true := by unfold okAdd; rw [g, g2, h]; rfl
    unfold vAdd
    rw [hok]
    exact ⟨⟨⟨rfl, rfl⟩, ⟨rfl, rfl⟩, ⟨rfl, rfl⟩, rfl⟩, rfl, rfl⟩
  · have h : vRight (a + d) (b + e) (c + f) = false := h
    unfold okAdd; rw [h, Bool.and_false]
def okSub (a b c d e f : Int) : Bool := vRight a b c && vRight d e f && vRight (a - d) (b - e) (c - f)
def vSub (a b c d e f : Int) : PV := .tuple (.cons (.agg (.cons (.int .i64 fun _ => if okSub a b c d e f = true then a - d else 0) (.cons (.int .i64 fun _ => if okSub a b c d e f = true then b - e else 0) (.cons (.int .i64 fun _ => if okSub a b c d e f = true then c - f else 0) .nil)))) (.cons (.bool fun _ => okSub a b c d e f) .nil))
theorem vSub_no {a b c d e f : Int} (h : okSub a b c d e f = false) : impP (.tuple (.cons zV (.cons .ff .nil))) (vSub a b c d e f) := by
  unfold vSub
  rw [h]
  exact ⟨⟨⟨rfl, rfl⟩, ⟨rfl, rfl⟩, ⟨rfl, rfl⟩, rfl⟩, rfl, rfl⟩
theorem bothSub_ok (a b c d e f : Int) : PF 22 (.cons (vP a b c) (.cons (vP d e f) (.cons (.func (.func 24) .nil .nil) .nil))) (vSub a b c d e f) := by
  refine (⟨Tryd.func22, rfl, rfl, rfl, ⟨rfl, rfl⟩, ok _⟩ : FN 22 Tryd.f22).treeS (mkO_ok Fh2_ok) true 40 (.both .any (.both .any (.yes (.yes (.yes (.no .any)))))) rfl ?_
  conv => arg 5; cbv
  have w1 : IntKind.i64.wrap (0 + 1) = 1 := by decide
  have w2 : IntKind.i64.wrap (1 + 1) = 2 := by decide
  have w3 : IntKind.i64.wrap (2 + 1) = 3 := by decide
  simp only [w1, w2, w3]
  have hi : ∀ k : Int, 0 ≤ k ∧ k < 3 → 0 ≤ k ∧ k < ((3 : Nat) : Int) := fun k h => h
  have i0 : 0 ≤ (0 : Int) ∧ (0 : Int) < ((3 : Nat) : Int) := by decide
  have i1 : 0 ≤ (1 : Int) ∧ (1 : Int) < ((3 : Nat) : Int) := by decide
  have i2 : 0 ≤ (2 : Int) ∧ (2 : Int) < ((3 : Nat) : Int) := by decide
  refine ⟨fun g => ⟨rfl, vSub_no ?_⟩, fun g => ⟨fun g2 => ⟨rfl, vSub_no ?_⟩, fun g2 => ?_⟩⟩
  · have g : vRight a b c = false := by simpa using g
    unfold okSub; rw [g]; rfl
  · have g2 : vRight d e f = false := by simpa using g2
    unfold okSub; rw [g2, Bool.and_false]; rfl
  have g : vRight a b c = true := by simpa using g
  have g2 : vRight d e f = true := by simpa using g2
  have r1 := vRight_iff.1 g
  have r2 := vRight_iff.1 g2
  have k0 : (0 ≤ a ∧ a ≤ 4611686018427387903) ∧ 0 ≤ d ∧ d ≤ 4611686018427387903 := by omega
  have k1 : (0 ≤ b ∧ b ≤ 4611686018427387903) ∧ 0 ≤ e ∧ e ≤ 4611686018427387903 := by omega
  have k2 : (0 ≤ c ∧ c ≤ 4611686018427387903) ∧ 0 ≤ f ∧ f ≤ 4611686018427387903 := by omega
  refine ⟨⟨(by show drawOK _ _ = true; decide +kernel), trivial⟩, ⟨by decide, trivial⟩, ⟨i0, i0, i0, i0, k0, i0, i0, (by show drawOK _ _ = true; decide +kernel), trivial⟩, ⟨by decide, trivial⟩, ⟨i1, i1, i1, i1, k1, i1, i1, (by show drawOK _ _ = true; decide +kernel), trivial⟩, ⟨by decide, trivial⟩, ⟨i2, i2, i2, i2, k2, i2, i2, (by show drawOK _ _ = true; decide +kernel), trivial⟩, ⟨by decide, trivial⟩, fun h => ⟨rfl, ?_⟩, fun h => ⟨rfl, vSub_no ?_⟩⟩
  · have h : vRight (a - d) (b - e) (c - f) = true := h
    have hok : okSub a b c d e f = true := by unfold okSub; rw [g, g2, h]; rfl
    unfold vSub
    rw [hok]
    exact ⟨⟨⟨rfl, rfl⟩, ⟨rfl, rfl⟩, ⟨rfl, rfl⟩, rfl⟩, rfl, rfl⟩
  · have h : vRight (a - d) (b - e) (c - f) = false := h
    unfold okSub; rw [h, Bool.and_false]
noncomputable def Fh3 : Table := addS 22 (.cons shV (.cons shV (.cons (.fn 23) .nil))) (fun a b c d e f => (.tuple (.cons (.agg (.cons (.int .i64 fun _ => if okAdd (a ()) (b ()) (c ()) (d ()) (e ()) (f ()) = true then a () + d () else 0) (.cons (.int .i64 fun _ => if okAdd (a ()) (b ()) (c ()) (d ()) (e ()) (f ()) = true then b () + e () else 0) (.cons (.int .i64 fun _ => if okAdd (a ()) (b ()) (c ()) (d ()) (e ()) (f ()) = true then c () + f () else 0) .nil)))) (.cons (.bool fun _ => okAdd (a ()) (b ()) (c ()) (d ()) (e ()) (f ())) .nil)), [])) Fh2
theorem Fh3_ok : TableOK Tryd.prog G0 Fh3 := addS_ok (⟨Tryd.func22, rfl, rfl, rfl, ⟨rfl, rfl⟩, ok _⟩ : FN 22 Tryd.f22).callable (fun a b c d e f _ => bothAdd_ok (a ()) (b ()) (c ()) (d ()) (e ()) (f ())) Fh2_ok
noncomputable def Fh3b : Table := addS 22 (.cons shV (.cons shV (.cons (.fn 24) .nil))) (fun a b c d e f => (.tuple (.cons (.agg (.cons (.int .i64 fun _ => if okSub (a ()) (b ()) (c ()) (d ()) (e ()) (f ()) = true then a () - d () else 0) (.cons (.int .i64 fun _ => if okSub (a ()) (b ()) (c ()) (d ()) (e ()) (f ()) = true then b () - e () else 0) (.cons (.int .i64 fun _ => if okSub (a ()) (b ()) (c ()) (d ()) (e ()) (f ()) = true then c () - f () else 0) .nil)))) (.cons (.bool fun _ => okSub (a ()) (b ()) (c ()) (d ()) (e ()) (f ())) .nil)), [])) Fh2
theorem Fh3b_ok : TableOK Tryd.prog G0 Fh3b := addS_ok (⟨Tryd.func22, rfl, rfl, rfl, ⟨rfl, rfl⟩, ok _⟩ : FN 22 Tryd.f22).callable (fun a b c d e f _ => bothSub_ok (a ()) (b ()) (c ()) (d ()) (e ()) (f ())) Fh2_ok
theorem add_okv (a b c d e f : Int) : PF 7 (.cons (vP a b c) (.cons (vP d e f) .nil)) (vAdd a b c d e f) := by
  refine (⟨Tryd.func7, rfl, rfl, rfl, ⟨rfl, rfl⟩, ok _⟩ : FN 7 Tryd.f7).tree (mkO_ok Fh3_ok) false 40 rfl ?_
  conv => arg 5; cbv
  exact ⟨rfl, ⟨⟨rfl, rfl⟩, ⟨rfl, rfl⟩, ⟨rfl, rfl⟩, rfl⟩, rfl, rfl⟩
theorem sub_okv (a b c d e f : Int) : PF 8 (.cons (vP a b c) (.cons (vP d e f) .nil)) (vSub a b c d e f) := by
  refine (⟨Tryd.func8, rfl, rfl, rfl, ⟨rfl, rfl⟩, ok _⟩ : FN 8 Tryd.f8).tree (mkO_ok Fh3b_ok) false 40 rfl ?_
  conv => arg 5; cbv
  exact ⟨rfl, ⟨⟨rfl, rfl⟩, ⟨rfl, rfl⟩, ⟨rfl, rfl⟩, rfl⟩, rfl, rfl⟩
theorem fit_ok (a b c d e f : Int) : PF 9 (.cons (vP a b c) (.cons (vP d e f) .nil)) (.bool fun _ => decide (a ≤ d ∧ b ≤ e ∧ c ≤ f)) := by
  refine (⟨Tryd.func9, rfl, rfl, rfl, ⟨rfl, rfl⟩, ok _⟩ : FN 9 Tryd.f9).tree (mkO_ok Fh2_ok) false 40 rfl ?_
  conv => arg 5; cbv
  refine ⟨fun g => ⟨fun g2 => ⟨rfl, ?_⟩, fun g2 => ⟨rfl, ?_⟩⟩, fun g => ⟨rfl, ?_⟩⟩
  · (replace g := of_decide_eq_true g); (try dsimp only at g); (try simp only [cast_fold, Int.ofNat_eq_natCast] at g)
    (replace g2 := of_decide_eq_true g2); (try dsimp only at g2); (try simp only [cast_fold, Int.ofNat_eq_natCast] at g2)
    exact decide_eq_decide.2 ⟨fun k => ⟨g, g2, k⟩, fun k => k.2.2⟩
  · (replace g2 := of_decide_eq_false g2); (try dsimp only at g2); (try simp only [cast_fold, Int.ofNat_eq_natCast] at g2)
    exact decide_eq_false fun k => g2 k.2.1
  · (replace g := of_decide_eq_false g); (try dsimp only at g); (try simp only [cast_fold, Int.ofNat_eq_natCast] at g)
    exact decide_eq_false fun k => g k.1
theorem max_okv (a b c d e f : Int) : PF 16 (.cons (vP a b c) (.cons (vP d e f) .nil)) (vP (if d > a then d else a) (if e > b then e else b) (if f > c then f else c)) := by
  refine (⟨Tryd.func16, rfl, rfl, rfl, ⟨rfl, rfl⟩, ok _⟩ : FN 16 Tryd.f16).tree (mkO_ok Fh2_ok) false 40 rfl ?_
  conv => arg 5; cbv
  exact ⟨rfl, ⟨rfl, rfl⟩, ⟨rfl, rfl⟩, ⟨rfl, rfl⟩, rfl⟩
theorem unlike_okv (a b c d e f : Int) : PF 17 (.cons (vP a b c) (.cons (vP d e f) .nil)) (.arrB 3 fun _ => [a != d, b != e, c != f]) := by
  refine (⟨Tryd.func17, rfl, rfl, rfl, ⟨rfl, rfl⟩, ok _⟩ : FN 17 Tryd.f17).tree (mkO_ok Fh2_ok) false 40 rfl ?_
  conv => arg 5; cbv
  exact ⟨rfl, rfl, rfl⟩
noncomputable def Fh4Add : Table := addS 7 (.cons shV (.cons shV .nil)) (fun a b c d e f => (.tuple (.cons (.agg (.cons (.int .i64 fun _ => if okAdd (a ()) (b ()) (c ()) (d ()) (e ()) (f ()) = true then a () + d () else 0) (.cons (.int .i64 fun _ => if okAdd (a ()) (b ()) (c ()) (d ()) (e ()) (f ()) = true then b () + e () else 0) (.cons (.int .i64 fun _ => if okAdd (a ()) (b ()) (c ()) (d ()) (e ()) (f ()) = true then c () + f () else 0) .nil)))) (.cons (.bool fun _ => okAdd (a ()) (b ()) (c ()) (d ()) (e ()) (f ())) .nil)), [])) Fh2
noncomputable def Fh4Sub : Table := addS 8 (.cons shV (.cons shV .nil)) (fun a b c d e f => (.tuple (.cons (.agg (.cons (.int .i64 fun _ => if okSub (a ()) (b ()) (c ()) (d ()) (e ()) (f ()) = true then a () - d () else 0) (.cons (.int .i64 fun _ => if okSub (a ()) (b ()) (c ()) (d ()) (e ()) (f ()) = true then b () - e () else 0) (.cons (.int .i64 fun _ => if okSub (a ()) (b ()) (c ()) (d ()) (e ()) (f ()) = true then c () - f () else 0) .nil)))) (.cons (.bool fun _ => okSub (a ()) (b ()) (c ()) (d ()) (e ()) (f ())) .nil)), [])) Fh4Add
theorem Fh4Sub_ok : TableOK Tryd.prog G0 Fh4Sub := addS_ok (⟨Tryd.func8, rfl, rfl, rfl, ⟨rfl, rfl⟩, ok _⟩ : FN 8 Tryd.f8).callable (fun a b c d e f _ => sub_okv (a ()) (b ()) (c ()) (d ()) (e ()) (f ())) (addS_ok (⟨Tryd.func7, rfl, rfl, rfl, ⟨rfl, rfl⟩, ok _⟩ : FN 7 Tryd.f7).callable (fun a b c d e f _ => add_okv (a ()) (b ()) (c ()) (d ()) (e ()) (f ())) Fh2_ok)
noncomputable def Fh5 : Table := addS 9 (.cons shV (.cons shV .nil)) (fun a b c d e f => (.bool fun _ => decide (a () ≤ d () ∧ b () ≤ e () ∧ c () ≤ f ()), []))
  (addS 16 (.cons shV (.cons shV .nil)) (fun a b c d e f => (.agg (.cons (.int .i64 fun _ => if d () > a () then d () else a ()) (.cons (.int .i64 fun _ => if e () > b () then e () else b ()) (.cons (.int .i64 fun _ => if f () > c () then f () else c ()) .nil))), []))
  (addS 17 (.cons shV (.cons shV .nil)) (fun a b c d e f => (.arrB 3 fun _ => [a () != d (), b () != e (), c () != f ()], [])) Fh4Sub))
theorem Fh5_ok : TableOK Tryd.prog G0 Fh5 := addS_ok (⟨Tryd.func9, rfl, rfl, rfl, ⟨rfl, rfl⟩, ok _⟩ : FN 9 Tryd.f9).callable (fun a b c d e f _ => fit_ok (a ()) (b ()) (c ()) (d ()) (e ()) (f ())) (addS_ok (⟨Tryd.func16, rfl, rfl, rfl, ⟨rfl, rfl⟩, ok _⟩ : FN 16 Tryd.f16).callable (fun a b c d e f _ => max_okv (a ()) (b ()) (c ()) (d ()) (e ()) (f ())) (addS_ok (⟨Tryd.func17, rfl, rfl, rfl, ⟨rfl, rfl⟩, ok _⟩ : FN 17 Tryd.f17).callable (fun a b c d e f _ => unlike_okv (a ()) (b ()) (c ()) (d ()) (e ()) (f ())) Fh4Sub_ok))
end Go.Proofs.YtdikfhjpnfffnacDoor
