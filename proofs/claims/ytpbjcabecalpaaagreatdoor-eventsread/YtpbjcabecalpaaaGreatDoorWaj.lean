/- A part of what the walks of this claim stand on. -/
import Derived.Test.YtpbjcabecalpaaaGreatDoorWai
import Derived.Test.YtpbjcabecalpaaaGreatDoorWah
import Derived.Test.YtpbjcabecalpaaaGreatDoorWag
import Derived.Test.YtpbjcabecalpaaaGreatDoorGac
import Derived.Test.YtpbjcabecalpaaaGreatDoorWae
set_option maxRecDepth 2000
set_option linter.unusedVariables false
set_option linter.unusedSimpArgs false
namespace Go.Proofs.YtpbjcabecalpaaaGreatDoor
open Go Go.Abs Go.Proofs
def isN (k : Int) : Prop := k = 1 \/ k = 2 \/ k = 4 \/ k = 5
structure RI (k : Int) (p : PoV) (s c : ByteArray) (hs : List HV) (n : Int) : Prop where
 kk : 0 <= k /\ k <= 9
 p1 : k = 0 ↔ podB p = true
 p2 : k ≠ 0 -> p = p0
 s1 : isN k ↔ nameB s = true
 s2 : ¬ isN k -> s = ByteArray.empty
 c1 : (k = 4 \/ k = 5) ↔ nameB c = true
 c2 : ¬ (k = 4 \/ k = 5) -> c = ByteArray.empty
 h1 : k = 2 -> hs ≠ []
 h2 : k ≠ 2 -> hs = []
 h3 : hs.length <= 6
 h4 : ∀ x ∈ hs, chB x = true
 n1 : k < 3 \/ k = 9 -> n = 0
 n2 : k = 3 -> 0 <= n /\ n <= 64
 n3 : 3 < k -> k < 9 -> -1000 <= n /\ n <= 9007199254740992
theorem name_nil : nameB ByteArray.empty = false := by decide
theorem pod_nil : podB p0 = false := by decide
theorem right_RI {k : Int} {p : PoV} {s c : ByteArray} {hs : List HV} {n : Int} : rightB (k, p, s, c, hs, n, ()) = true ↔ RI k p s c hs n := by
 constructor
 ·intro h
  have hf := (right_iff.1 h).1
  unfold fitsB at hf
  dsimp only at hf
  rcases right_kinds h with ⟨p', hp, e⟩ | ⟨s', hs', e⟩ | ⟨s', hs', h1, l1, l2, h2, e⟩ | ⟨k', s', c', n', hk, h1, h2, h3, e⟩ | ⟨k', n', hk, h3, e⟩ | e
  all_goals
   simp only [Prod.mk.injEq, and_true] at e
   obtain ⟨rfl, rfl, rfl, rfl, rfl, rfl⟩ := e
  ·refine ⟨by omega, ⟨fun _ => hp, fun _ => rfl⟩, fun h => absurd rfl h, ⟨fun h => by unfold isN at h; omega, fun h => by rw [name_nil] at h; cases h⟩, fun _ => rfl, ⟨fun h => by omega, fun h => by rw [name_nil] at h; cases h⟩, fun _ => rfl, fun h => by omega, fun _ => rfl, Nat.zero_le _, fun x hx => (by cases hx), fun _ => rfl, fun h => by omega, fun h => by omega⟩
  ·refine ⟨by omega, ⟨fun h => by omega, fun h => by rw [pod_nil] at h; cases h⟩, fun _ => rfl, ⟨fun _ => hs', fun _ => .inl rfl⟩, fun h => absurd (.inl rfl) h, ⟨fun h => by omega, fun h => by rw [name_nil] at h; cases h⟩, fun _ => rfl, fun h => by omega, fun _ => rfl, Nat.zero_le _, fun x hx => (by cases hx), fun _ => rfl, fun h => by omega, fun h => by omega⟩
  ·refine ⟨by omega, ⟨fun h => by omega, fun h => by rw [pod_nil] at h; cases h⟩, fun _ => rfl, ⟨fun _ => h1, fun _ => .inr (.inl rfl)⟩, fun h => absurd (.inr (.inl rfl)) h, ⟨fun h => by omega, fun h => by rw [name_nil] at h; cases h⟩, fun _ => rfl, fun _ h => ?_, fun h => absurd rfl h, l2, h2, fun _ => rfl, fun h => by omega, fun h => by omega⟩
   rw [h] at l1; exact absurd l1 (by decide)
  ·have hn : isN k := by unfold isN; omega
   refine ⟨by omega, ⟨fun h => by omega, fun h => by rw [pod_nil] at h; cases h⟩, fun _ => rfl, ⟨fun _ => h1, fun _ => hn⟩, fun h => absurd hn h, ⟨fun _ => h2, fun _ => hk⟩, fun h => absurd hk h, fun h => by omega, fun _ => rfl, Nat.zero_le _, fun x hx => (by cases hx), fun h => by omega, fun h => by omega, fun _ _ => numB_iff.1 h3⟩
  ·have hn : ¬ isN k := by unfold isN; omega
   refine ⟨by omega, ⟨fun h => by omega, fun h => by rw [pod_nil] at h; cases h⟩, fun _ => rfl, ⟨fun h => absurd h hn, fun h => by rw [name_nil] at h; cases h⟩, fun _ => rfl, ⟨fun h => by omega, fun h => by rw [name_nil] at h; cases h⟩, fun _ => rfl, fun h => by omega, fun _ => rfl, Nat.zero_le _, fun x hx => (by cases hx), fun h => by omega, fun h => ?_, fun _ _ => numB_iff.1 h3⟩
   subst h
   rw [if_neg (by decide), if_neg (by decide), if_neg (by decide), if_pos rfl] at hf
   simpa using hf
  ·refine ⟨by omega, ⟨fun h => by omega, fun h => by rw [pod_nil] at h; cases h⟩, fun _ => rfl, ⟨fun h => by unfold isN at h; omega, fun h => by rw [name_nil] at h; cases h⟩, fun _ => rfl, ⟨fun h => by omega, fun h => by rw [name_nil] at h; cases h⟩, fun _ => rfl, fun h => by omega, fun _ => rfl, Nat.zero_le _, fun x hx => (by cases hx), fun _ => rfl, fun h => by omega, fun h => by omega⟩
 ·rintro ⟨kk, p1, p2, s1, s2, c1, c2, h1, h2, h3, h4, n1, n2, n3⟩
  have hc : k = 0 \/ k = 1 \/ k = 2 \/ k = 3 \/ k = 4 \/ k = 5 \/ k = 6 \/ k = 7 \/ k = 8 \/ k = 9 := by omega
  have ns : ∀ {k : Int}, k ≠ 1 -> k ≠ 2 -> k ≠ 4 -> k ≠ 5 -> ¬ isN k := fun a b c d h => by unfold isN at h; omega
  have nb : ∀ {n : Int}, -1000 <= n /\ n <= 9007199254740992 -> numB n = true := fun h => numB_iff.2 h
  rcases hc with rfl | rfl | rfl | rfl | rfl | rfl | rfl | rfl | rfl | rfl
  ·obtain rfl := s2 (ns (by decide) (by decide) (by decide) (by decide))
   obtain rfl := c2 (by omega)
   obtain rfl := h2 (by decide)
   obtain rfl := n1 (by omega)
   exact right_iff.2 ⟨p1.1 rfl, rfl⟩
  ·obtain rfl := p2 (by decide)
   obtain rfl := c2 (by omega)
   obtain rfl := h2 (by decide)
   obtain rfl := n1 (by omega)
   exact right_iff.2 ⟨s1.1 (.inl rfl), rfl⟩
  ·obtain rfl := p2 (by decide)
   obtain rfl := c2 (by omega)
   obtain rfl := n1 (by omega)
   have h0 : 0 < hs.length := by
    cases hs with
    | nil => exact absurd rfl (h1 rfl)
    | cons x l => exact Nat.succ_pos _
   refine right_iff.2 ⟨?_, rfl⟩
   show (nameB s && decide (0 < (hs.length : Int)) && decide ((hs.length : Int) <= 6) && decide (badH hs < 0)) = true
   rw [s1.1 (.inr (.inl rfl)), decide_eq_true (badH_iff.2 h4), decide_eq_true (show 0 < (hs.length : Int) by omega), decide_eq_true (show (hs.length : Int) <= 6 by omega)]
   rfl
  ·obtain rfl := p2 (by decide)
   obtain rfl := s2 (ns (by decide) (by decide) (by decide) (by decide))
   obtain rfl := c2 (by omega)
   obtain rfl := h2 (by decide)
   refine right_iff.2 ⟨?_, rfl⟩
   show (decide (0 <= n) && decide (n <= 64)) = true
   rw [decide_eq_true (n2 rfl).1, decide_eq_true (n2 rfl).2]; rfl
  ·obtain rfl := p2 (by decide)
   obtain rfl := h2 (by decide)
   refine right_iff.2 ⟨?_, rfl⟩
   show (nameB s && nameB c && numB n) = true
   rw [s1.1 (.inr (.inr (.inl rfl))), c1.1 (.inl rfl), nb (n3 (by decide) (by decide))]; rfl
  ·obtain rfl := p2 (by decide)
   obtain rfl := h2 (by decide)
   refine right_iff.2 ⟨?_, rfl⟩
   show (nameB s && nameB c && numB n) = true
   rw [s1.1 (.inr (.inr (.inr rfl))), c1.1 (.inr rfl), nb (n3 (by decide) (by decide))]; rfl
  ·obtain rfl := p2 (by decide)
   obtain rfl := s2 (ns (by decide) (by decide) (by decide) (by decide))
   obtain rfl := c2 (by omega)
   obtain rfl := h2 (by decide)
   exact right_iff.2 ⟨nb (n3 (by decide) (by decide)), rfl⟩
  ·obtain rfl := p2 (by decide)
   obtain rfl := s2 (ns (by decide) (by decide) (by decide) (by decide))
   obtain rfl := c2 (by omega)
   obtain rfl := h2 (by decide)
   exact right_iff.2 ⟨nb (n3 (by decide) (by decide)), rfl⟩
  ·obtain rfl := p2 (by decide)
   obtain rfl := s2 (ns (by decide) (by decide) (by decide) (by decide))
   obtain rfl := c2 (by omega)
   obtain rfl := h2 (by decide)
   exact right_iff.2 ⟨nb (n3 (by decide) (by decide)), rfl⟩
  ·obtain rfl := p2 (by decide)
   obtain rfl := s2 (ns (by decide) (by decide) (by decide) (by decide))
   obtain rfl := c2 (by omega)
   obtain rfl := h2 (by decide)
   obtain rfl := n1 (by omega)
   exact right_iff.2 ⟨rfl, rfl⟩
theorem right_no {k : Int} {p : PoV} {s c : ByteArray} {hs : List HV} {n : Int} (h : ¬ RI k p s c hs n) : rightB (k, p, s, c, hs, n, ()) = false := by
 cases hb : rightB (k, p, s, c, hs, n, ()) with
 | true => exact absurd (right_RI.1 hb) h
 | false => rfl
instance (k : Int) : Decidable (isN k) := by unfold isN; infer_instance
def nmK (k : Int) : Bool := decide (isN k)
def rxA (k : Int) : Env := [(4, .bool fun _ => nmK k), (3, .int .i64 fun _ => k), (1, .ptr 0 0)]
def rxB (k : Int) : Env := [(3, .int .i64 fun _ => k), (1, .ptr 0 0)]
def rxC (k : Int) (hs : List HV) (i : Nat) : Env := [(112, .int .i64 fun _ => (i : Int)), (111, .int .i64 fun _ => (hs.length : Int)), (110, Sh.mkL 7 shH fun _ => hs), (3, .int .i64 fun _ => k), (1, .ptr 0 0)]
theorem rright_ok (e : EV) (hn : e.2.1.1.size <= 9223372036854775807) (hc : ∀ c ∈ e.2.1.2.2.2.1, (c.1 : ByteArray).size <= 9223372036854775807) (hl : e.2.1.2.2.2.1.length <= 9223372036854775807) (hh : e.2.2.2.2.1.length <= 9223372036854775807) (hs2 : e.2.2.1.size <= 9223372036854775807) (hs3 : e.2.2.2.1.size <= 9223372036854775807) (hs4 : ∀ c ∈ e.2.2.2.2.1, (c.1 : ByteArray).size <= 9223372036854775807) : PF 8 (.cons (shE.mk fun _ => e) .nil) (.bool fun _ => rightB e) := by
 obtain ⟨k, ⟨nm, pr, po, l, ⟨⟩⟩, s, c, hs, n, ⟨⟩⟩ := e
 refine tX qf8 Fq9_ok ((.both .any (.both .any (.both (.to 5) (.both (.to 5) (.both (.to 5) (.to 5))))))) rfl ?_
 conv => arg 5; cbv
 refine tree_if (0 <= k /\ k <= 9) (rxA k) [(0, .var (shE.mk fun _ => ((k, (nm, pr, po, l, ()), s, c, hs, n, ()) : EV)))] 1 (by rfl) ?_ ?_
 ·refine ⟨fun h => ⟨rfl, right_no fun R => ?_⟩, fun a => ⟨fun h => ⟨rfl, right_no fun R => ?_⟩, fun b => ?_⟩⟩
  ·have h : k < 0 := of_decide_eq_true h
   have := R.kk; omega
  ·have h : 9 < k := of_decide_eq_true h
   have := R.kk; omega
  ·have a : ¬ k < 0 := of_decide_eq_false a
   have b : ¬ 9 < k := of_decide_eq_false b
   have kk : 0 <= k /\ k <= 9 := by omega
   have t1 : ∀ n : Int, (k == n) = true -> k = n := fun n h => by simpa using h
   refine ⟨fun h => ⟨kk, rfl, fun i => i, by rfl, ⟨?_, iR, iR, trivial⟩, ⟨iR, trivial⟩⟩, fun h1 => ⟨fun h => ⟨kk, rfl, fun i => i, by rfl, ⟨?_, iR, iR, trivial⟩, ⟨iR, trivial⟩⟩, fun h2 => ⟨fun h => ⟨kk, rfl, fun i => i, by rfl, ⟨?_, iR, iR, trivial⟩, ⟨iR, trivial⟩⟩, fun h3 => ⟨kk, rfl, fun i => i, by rfl, ⟨?_, iR, iR, trivial⟩, ⟨iR, trivial⟩⟩⟩⟩⟩
   ·exact decide_eq_true (.inl (t1 1 h))
   ·exact decide_eq_true (.inr (.inl (t1 2 h)))
   ·exact decide_eq_true (.inr (.inr (.inl (t1 4 h))))
   ·have h1 : k ≠ 1 := bne0 h1
    have h2 : k ≠ 2 := bne0 h2
    have h3 : k ≠ 4 := bne0 h3
    show (k == 5) = nmK k
    rw [Bool.eq_iff_iff, beq_iff_eq]
    show k = 5 ↔ decide (isN k) = true
    rw [decide_eq_true_eq]
    unfold isN
    omega
 intro kk
 refine bX Fq9_ok ((.both .any (.both (.both .any (.both .any (.both (.both .any (.to 7)) (.to 7)))) (.both .any (.both (.both .any (.to 7)) (.to 7)))))) _ rfl ?_
 conv => arg 5; cbv
 have fC : ∀ j : Unit -> Int, shC.fits (shC.mk fun x => (l : List shC.val).getD (j ()).toNat shC.dflt) := fun j => fits_of_mk shC _
 have e1 := rd_list l
 have l1 : (rdL shC.rd (fun _ => (l.length : Int)) fun j => shC.mk fun _ => (l : List shC.val).getD (j ()).toNat shC.dflt).length <= 9223372036854775807 := by
  rw [rdL_len]; show ((l.length : Nat) : Int).toNat <= _; rw [Int.toNat_natCast]; exact hl
 have hcs : ∀ x ∈ (rdL shC.rd (fun _ => (l.length : Int)) fun j => shC.mk fun _ => (l : List shC.val).getD (j ()).toNat shC.dflt : List CV), ByteArray.size x.1 <= 9223372036854775807 := fun x hx => hc x (Eq.mp (congrArg (fun l : List CV => x ∈ l) e1) hx)
 have eP : podB (nm, pr, po, (rdL shC.rd (fun _ => (l.length : Int)) fun j => shC.mk fun _ => (l : List shC.val).getD (j ()).toNat shC.dflt : List CV), ()) = podB (nm, pr, po, l, ()) := congrArg (fun x : List CV => podB (nm, pr, po, x, ())) e1
 have eS : samB (nm, pr, po, (rdL shC.rd (fun _ => (l.length : Int)) fun j => shC.mk fun _ => (l : List shC.val).getD (j ()).toNat shC.dflt : List CV), ()) (ByteArray.empty, 0, 0, [], ()) = samB (nm, pr, po, l, ()) p0 := congrArg (fun x : List CV => samB (nm, pr, po, x, ()) (ByteArray.empty, 0, 0, [], ())) e1
 have NT : (!nmK k) = false -> isN k := fun g => of_decide_eq_true (show nmK k = true by simpa using g)
 have NF : (!nmK k) = true -> ¬ isN k := fun g => of_decide_eq_false (show nmK k = false by simpa using g)
 have bbF : ∀ {x y : Bool}, (!(x == y)) = false -> x = y := fun {x y} h => by cases x <;> cases y <;> first | rfl | exact absurd h (by decide)
 have bbT : ∀ {x y : Bool}, (!(x == y)) = true -> ¬ x = y := fun {x y} h => by cases x <;> cases y <;> first | exact absurd h (by decide) | decide
 have NE : (isN k ↔ nameB s = true) -> nmK k = nameB s := fun h => by
  rw [Bool.eq_iff_iff]; exact ⟨fun q => h.1 (of_decide_eq_true q), fun q => decide_eq_true (h.2 q)⟩
 have NM : (!(nmK k == nameB s)) = false -> (isN k ↔ nameB s = true) := fun h => by
  have h := bbF h
  exact ⟨fun q => h ▸ decide_eq_true q, fun q => of_decide_eq_true (show nmK k = true by rw [h]; exact q)⟩
 refine tree_if ((k = 0 ↔ podB (nm, pr, po, l, ()) = true) /\ (k ≠ 0 -> (nm, pr, po, l, ()) = p0) /\ (isN k ↔ nameB s = true) /\ (¬ isN k -> s = ByteArray.empty)) (rxB k) [(0, .var (shE.mk fun _ => ((k, (nm, pr, po, l, ()), s, c, hs, n, ()) : EV)))] 1 (by rfl) ?_ ?_
 ·refine ⟨⟨hn, hcs, fC, trivial⟩, fun a => ⟨rfl, right_no fun R => ?_⟩, fun a => ?_⟩
  ·have a : (!((k == 0) == podB (nm, pr, po, l, ()))) = true := (congrArg (fun b => !((k == 0) == b)) eP).symm.trans a
   refine bbT a ?_
   rw [Bool.eq_iff_iff, beq_iff_eq]
   exact R.p1
  have a : (!((k == 0) == podB (nm, pr, po, l, ()))) = false := (congrArg (fun b => !((k == 0) == b)) eP).symm.trans a
  have P1 : k = 0 ↔ podB (nm, pr, po, l, ()) = true := by
   rw [<- bbF a, beq_iff_eq]
  refine ⟨fun b => ⟨⟨l1, fC, trivial⟩, fun d => ⟨rfl, right_no fun R => ?_⟩, fun d => ?_⟩, fun b => ?_⟩
  ·have b : (k != 0) = true := b
   have b : k ≠ 0 := by simpa using b
   have d : (!samB (nm, pr, po, l, ()) p0) = true := (congrArg (fun b => !b) eS).symm.trans d
   rw [samB_iff.2 (R.p2 b)] at d
   cases d
  ·have d : (!samB (nm, pr, po, l, ()) p0) = false := (congrArg (fun b => !b) eS).symm.trans d
   have P2 : (nm, pr, po, l, ()) = p0 := samB_iff.1 (by simpa using d)
   refine ⟨⟨hs2, trivial⟩, fun f => ⟨rfl, right_no fun R => ?_⟩, fun f => ⟨fun g => ⟨fun i => ⟨rfl, right_no fun R => ?_⟩, fun i => ⟨⟨P1, fun _ => P2, NM f, fun _ => ?_⟩, rfl, fun i => i, by rfl, ⟨iR, iR, trivial⟩, ⟨iR, trivial⟩⟩⟩, fun g => ⟨⟨P1, fun _ => P2, NM f, fun h => ?_⟩, rfl, fun i => i, by rfl, ⟨iR, iR, trivial⟩, ⟨iR, trivial⟩⟩⟩⟩
   ·exact bbT f (NE R.s1)
   ·have g : (!nmK k) = true := g
    have g : ¬ isN k := NF g
    exact absurd (R.s2 g) (of_decide_eq_true (p := ¬ s = ByteArray.empty) i)
   ·exact Decidable.not_not.1 (of_decide_eq_false (p := ¬ s = ByteArray.empty) i)
   ·have g : (!nmK k) = false := g
    exact absurd (NT g) h
  ·have b : (k != 0) = false := b
   have b : k = 0 := by simpa using b
   have P2 : k ≠ 0 -> (nm, pr, po, l, ()) = p0 := fun h => absurd b h
   refine ⟨⟨hs2, trivial⟩, fun f => ⟨rfl, right_no fun R => ?_⟩, fun f => ⟨fun g => ⟨fun i => ⟨rfl, right_no fun R => ?_⟩, fun i => ⟨⟨P1, P2, NM f, fun _ => ?_⟩, rfl, fun i => i, by rfl, ⟨iR, iR, trivial⟩, ⟨iR, trivial⟩⟩⟩, fun g => ⟨⟨P1, P2, NM f, fun h => ?_⟩, rfl, fun i => i, by rfl, ⟨iR, iR, trivial⟩, ⟨iR, trivial⟩⟩⟩⟩
   ·exact bbT f (NE R.s1)
   ·have g : (!nmK k) = true := g
    have g : ¬ isN k := NF g
    exact absurd (R.s2 g) (of_decide_eq_true (p := ¬ s = ByteArray.empty) i)
   ·exact Decidable.not_not.1 (of_decide_eq_false (p := ¬ s = ByteArray.empty) i)
   ·have g : (!nmK k) = false := g
    exact absurd (NT g) h
 rintro ⟨P1, P2, S1, S2⟩
 refine bX Fq9_ok ((.both (.both .any (.no (.to 9))) (.both .any (.yes (.both (.both .any (.to 9)) (.to 9)))))) _ rfl ?_
 conv => arg 5; cbv
 have t1 : ∀ n : Int, (k == n) = true -> k = n := fun n h => by simpa using h
 refine tree_if (((k = 4 \/ k = 5) ↔ nameB c = true) /\ (¬ (k = 4 \/ k = 5) -> c = ByteArray.empty)) (rxB k) [(0, .var (shE.mk fun _ => ((k, (nm, pr, po, l, ()), s, c, hs, n, ()) : EV)))] 1 (by rfl) ?_ ?_
 ·refine ⟨fun a => ⟨⟨hs3, trivial⟩, fun b => ⟨rfl, right_no fun R => ?_⟩, fun b => ⟨⟨?_, trivial⟩, ?_, rfl, fun i => i, by rfl, ⟨iR, iR, trivial⟩, ⟨iR, trivial⟩⟩⟩, fun a => ⟨⟨hs3, trivial⟩, fun b => ⟨rfl, right_no fun R => ?_⟩, fun b => ⟨⟨?_, trivial⟩, fun d => ⟨fun e => ⟨rfl, right_no fun R => ?_⟩, fun e => ⟨?_, rfl, fun i => i, by rfl, ⟨iR, iR, trivial⟩, ⟨iR, trivial⟩⟩⟩, fun d => ⟨?_, rfl, fun i => i, by rfl, ⟨iR, iR, trivial⟩, ⟨iR, trivial⟩⟩⟩⟩⟩
  ·exact bbT b (R.c1.1 (.inl (t1 4 a))).symm
  ·have a := t1 4 a
   show (k != 4) = false
   rw [a]; rfl
  ·have b : nameB c = true := (bbF b).symm
   exact ⟨⟨fun _ => b, fun _ => .inl (t1 4 a)⟩, fun h => absurd (.inl (t1 4 a)) h⟩
  ·have a : k ≠ 4 := bne0 a
   refine bbT b ?_
   rw [Bool.eq_iff_iff, beq_iff_eq, <- R.c1]
   omega
  ·have a : k ≠ 4 := bne0 a
   show (k != 4) = true
   simpa using a
  ·have a : k ≠ 4 := bne0 a
   have d : (k != 5) = true := d
   have d : k ≠ 5 := by simpa using d
   exact absurd (R.c2 (by omega)) (of_decide_eq_true (p := ¬ c = ByteArray.empty) e)
  ·have a : k ≠ 4 := bne0 a
   have b : (k == 5) = nameB c := bbF b
   refine ⟨?_, fun _ => Decidable.not_not.1 (of_decide_eq_false (p := ¬ c = ByteArray.empty) e)⟩
   rw [<- b, beq_iff_eq]; omega
  ·have a : k ≠ 4 := bne0 a
   have b : (k == 5) = nameB c := bbF b
   have d : (k != 5) = false := d
   have d : k = 5 := by simpa using d
   refine ⟨?_, fun h => absurd (.inr d) h⟩
   rw [<- b, beq_iff_eq]; omega
 rintro ⟨C1, C2⟩
 refine bX Fq9_ok ((.both (.both .any (.no (.both .any (.to 11)))) (.yes (.both .any (.both .any (.to 11)))))) _ rfl ?_
 conv => arg 5; cbv
 refine tree_if ((k = 2 -> hs ≠ []) /\ (k ≠ 2 -> hs = []) /\ hs.length <= 6) (rxB k) [(0, .var (shE.mk fun _ => ((k, (nm, pr, po, l, ()), s, c, hs, n, ()) : EV)))] 1 (by rfl) ?_ ?_
 ·have hz : hs = [] ↔ (hs.length : Int) = 0 := ⟨fun h => by rw [h]; rfl, fun h => List.length_eq_zero_iff.1 (by omega)⟩
  refine ⟨fun a => ⟨fun b => ⟨rfl, right_no fun R => ?_⟩, fun b => ⟨⟨?_, trivial⟩, fun d => ⟨rfl, right_no fun R => ?_⟩, fun d => ⟨?_, rfl, fun i => i, by rfl, ⟨iR, iR, trivial⟩, ⟨iR, trivial⟩⟩⟩⟩, fun a => ⟨⟨?_, trivial⟩, fun b => ⟨rfl, right_no fun R => ?_⟩, fun b => ⟨fun d => ⟨rfl, right_no fun R => ?_⟩, fun d => ⟨?_, rfl, fun i => i, by rfl, ⟨iR, iR, trivial⟩, ⟨iR, trivial⟩⟩⟩⟩⟩
  ·have b : ((hs.length : Int) == 0) = true := b
   exact R.h1 (t1 2 a) (hz.2 (by simpa using b))
  ·have a := t1 2 a
   show (k != 2) = false
   rw [a]; rfl
  ·have d : (6 : Int) < (hs.length : Int) := of_decide_eq_true d
   have := R.h3; omega
  ·have a := t1 2 a
   have b : ((hs.length : Int) == 0) = false := b
   have b : ¬ (hs.length : Int) = 0 := by simpa using b
   have d : ¬ (6 : Int) < (hs.length : Int) := of_decide_eq_false d
   exact ⟨fun _ h => b (hz.1 h), fun h => absurd a h, by omega⟩
  ·have a : k ≠ 2 := bne0 a
   show (k != 2) = true
   simpa using a
  ·have a : k ≠ 2 := bne0 a
   have b : (0 : Int) < (hs.length : Int) := of_decide_eq_true b
   have := hz.1 (R.h2 a)
   omega
  ·have d : (6 : Int) < (hs.length : Int) := of_decide_eq_true d
   have := R.h3; omega
  ·have a : k ≠ 2 := bne0 a
   have b : ¬ (0 : Int) < (hs.length : Int) := of_decide_eq_false b
   have d : ¬ (6 : Int) < (hs.length : Int) := of_decide_eq_false d
   exact ⟨fun h => absurd h a, fun _ => hz.2 (by omega), by omega⟩
 rintro ⟨H1, H2, H3⟩
 refine bX Fq9_ok (.any) _ rfl ?_
 conv => arg 5; cbv
 refine run_inv (ι := Nat) (fun i => hs.length - i) (fun i => i <= hs.length /\ ∀ j, j < i -> chB (hs.getD j h0) = true) (rxC k hs) (fun _ => [(0, .var (shE.mk fun _ => ((k, (nm, pr, po, l, ()), s, c, hs, n, ()) : EV)))]) 1 0 (fun i => i) (by rfl) (by rfl) ⟨Nat.zero_le _, fun j hj => by omega⟩ ?_ ⟨iR, iR, iR, iR, iR, trivial⟩ ⟨iR, trivial⟩
 intro i hi ih
 refine bX Fq9_ok (.any) _ rfl ?_
 conv => arg 5; cbv
 obtain ⟨hi1, hch⟩ := hi
 refine ⟨fun g => ?_, fun g => ?_⟩
 ·have g : (i : Int) < (hs.length : Int) := of_decide_eq_true g
  have hi2 : i < hs.length := by omega
  have hw : IntKind.i64.wrap ((i : Int) + 1) = ((i + 1 : Nat) : Int) := by rw [IntWalk.i64_in _ ⟨by omega, by omega⟩]; omega
  have hm : hs.getD i h0 ∈ hs := by
   rw [List.getD_eq_getElem?_getD, List.getElem?_eq_getElem hi2]; exact List.getElem_mem hi2
  have eg : List.getD (α := HV) hs ((i : Int)).toNat (shH.dflt : shH.val) = hs.getD i h0 := by
   rw [Int.toNat_natCast]
   exact getD_any (α := HV) _ _ hi2
  have cb : ∀ {b : Bool} (f : HV -> Bool), f (List.getD (α := HV) hs ((i : Int)).toNat (shH.dflt : shH.val)) = b -> f (hs.getD i h0) = b := fun f h => (congrArg f eg).symm.trans h
  have no : (chB (hs.getD i h0) = true -> False) -> rightB (k, (nm, pr, po, l, ()), s, c, hs, n, ()) = false := fun h => right_no fun R => h (R.h4 _ hm)
  refine ⟨⟨⟨Int.natCast_nonneg i, g⟩, ?_, trivial⟩, fun q => ⟨rfl, no fun h => ?_⟩, fun q => ⟨fun r => ⟨rfl, no fun h => ?_⟩, fun r => ⟨fun t => ⟨rfl, no fun h => ?_⟩, fun t => ?_⟩⟩⟩
  ·exact Nat.le_trans (Nat.le_of_eq (congrArg (fun x : HV => ByteArray.size x.1) eg)) (hs4 _ hm)
  ·have q := cb (fun x => !nameB x.1) q
   rw [(chB_parts h).1] at q; cases q
  ·have r := cb (fun x => !vvB x.2.1) r
   rw [(chB_parts h).2.1] at r; cases r
  ·have t := cb (fun x => !vvB x.2.2.1) t
   rw [(chB_parts h).2.2] at t; cases t
  ·have q := cb (fun x => !nameB x.1) q
   have r := cb (fun x => !vvB x.2.1) r
   have t := cb (fun x => !vvB x.2.2.1) t
   have ch : chB (hs.getD i h0) = true := by
    unfold chB
    rw [show nameB (hs.getD i h0).1 = true by simpa using q, show vvB (hs.getD i h0).2.1 = true by simpa using r, show vvB (hs.getD i h0).2.2.1 = true by simpa using t]
    rfl
   refine ih (i + 1) (fun i => i) ⟨by omega, fun j hj => ?_⟩ (by omega) (by rfl) ⟨⟨rfl, hw⟩, iR, iR, iR, iR, trivial⟩ ⟨iR, trivial⟩
   by_cases ej : j < i
   ·exact hch j ej
   ·obtain rfl : j = i := by omega
    exact ch
 ·have g : ¬ (i : Int) < (hs.length : Int) := of_decide_eq_false g
  have H4 : ∀ x ∈ hs, chB x = true := fun x hx => by
   obtain ⟨j, hj, rfl⟩ := List.getElem_of_mem hx
   have := hch j (by omega)
   rw [List.getD_eq_getElem?_getD, List.getElem?_eq_getElem hj] at this
   exact this
  have mk := fun n1 n2 n3 => right_RI.2 (RI.mk (n := n) kk P1 P2 S1 S2 C1 C2 H1 H2 H3 H4 n1 n2 n3)
  refine ⟨fun a => ⟨rfl, ?_⟩, fun a => ⟨fun b => ⟨rfl, ?_⟩, fun b => ⟨fun d => ⟨fun e => ⟨rfl, ?_⟩, fun e => ⟨rfl, right_no fun R => ?_⟩⟩, fun d => ⟨fun e => ⟨rfl, ?_⟩, fun e => ⟨rfl, right_no fun R => ?_⟩⟩⟩⟩⟩
  ·have a : k < 3 := of_decide_eq_true a
   show (n == 0) = rightB _
   rw [Bool.eq_iff_iff, beq_iff_eq]
   exact ⟨fun h => mk (fun _ => h) (by omega) (by omega), fun h => (right_RI.1 h).n1 (.inl a)⟩
  ·have b := t1 9 b
   show (n == 0) = rightB _
   rw [Bool.eq_iff_iff, beq_iff_eq]
   exact ⟨fun h => mk (fun _ => h) (by omega) (by omega), fun h => (right_RI.1 h).n1 (.inr b)⟩
  ·have d := t1 3 d
   have e : 0 <= n := of_decide_eq_true e
   show decide (n <= 64) = rightB _
   rw [Bool.eq_iff_iff, decide_eq_true_eq]
   exact ⟨fun h => mk (by omega) (fun _ => ⟨e, h⟩) (by omega), fun h => ((right_RI.1 h).n2 d).2⟩
  ·have d := t1 3 d
   have e : ¬ 0 <= n := of_decide_eq_false e
   exact e (R.n2 d).1
  ·have a : ¬ k < 3 := of_decide_eq_false a
   have b : k ≠ 9 := bne0 b
   have d : k ≠ 3 := bne0 d
   have e : -1000 <= n := of_decide_eq_true e
   show decide (n <= 9007199254740992) = rightB _
   rw [Bool.eq_iff_iff, decide_eq_true_eq]
   exact ⟨fun h => mk (by omega) (by omega) (fun _ _ => ⟨e, h⟩), fun h => ((right_RI.1 h).n3 (by omega) (by omega)).2⟩
  ·have a : ¬ k < 3 := of_decide_eq_false a
   have b : k ≠ 9 := bne0 b
   have d : k ≠ 3 := bne0 d
   have e : ¬ -1000 <= n := of_decide_eq_false e
   exact e (R.n3 (by omega) (by omega)).1
def plA (v w i : Nat) : Env := [(6, .int .i64 fun _ => (i : Int)), (5, .int .u64 fun _ => ((cyP v w i : Nat) : Int)), (4, .ptr 2 0), (3, .ptr 1 0), (2, .ptr 0 0)]
def plS (v w i : Nat) : Store := [(0, .var (.arrI .u64 20 fun _ => rowOf (dg2 (v + w) v i))), (1, .var (.arrI .u64 20 fun _ => rowOf (dg w))), (2, .var (.arrI .u64 20 fun _ => List.replicate 20 0))]
theorem uw {n : Nat} (h : n < 18446744073709551616) : IntKind.u64.wrap (n : Int) = (n : Int) := by rw [u64_mod, Nat.mod_eq_of_lt h]
theorem plus_stp {v w i : Nat} (hi : i < 20) : IntKind.u64.wrap ((IntKind.u64.wrap (IntKind.u64.wrap (((cyP v w i : Nat) : Int) + (rowOf (dg2 (v + w) v i)).getD ((i : Int)).toNat 0) + (rowOf (dg w)).getD ((i : Int)).toNat 0)).tdiv 65536) = ((cyP v w (i + 1) : Nat) : Int) /\
  (rowOf (dg2 (v + w) v i)).set ((i : Int)).toNat ((IntKind.u64.wrap (IntKind.u64.wrap (((cyP v w i : Nat) : Int) + (rowOf (dg2 (v + w) v i)).getD ((i : Int)).toNat 0) + (rowOf (dg w)).getD ((i : Int)).toNat 0)).tmod 65536) = rowOf (dg2 (v + w) v (i + 1)) := by
 have b1 := dg_lt v i
 have b2 := dg_lt w i
 have b3 := cyP_le v w i
 obtain ⟨e1, e2⟩ := cyP_step v w i
 have eX : IntKind.u64.wrap (IntKind.u64.wrap (((cyP v w i : Nat) : Int) + (rowOf (dg2 (v + w) v i)).getD ((i : Int)).toNat 0) + (rowOf (dg w)).getD ((i : Int)).toNat 0) = ((cyP v w i + dg v i + dg w i : Nat) : Int) := by
  rw [Int.toNat_natCast, dg2_get _ _ hi, rowOf_get hi, wrap_add (by omega), wrap_add (by omega)]
 rw [eX]
 refine ⟨?_, ?_⟩
 ·show IntKind.u64.wrap (((cyP v w i + dg v i + dg w i) / 65536 : Nat) : Int) = _
  rw [uw (by omega), e2]
 ·show (rowOf (dg2 (v + w) v i)).set ((i : Int)).toNat (((cyP v w i + dg v i + dg w i) % 65536 : Nat) : Int) = _
  rw [e1, Int.toNat_natCast, dg2_set _ _ hi]
theorem minus_stp {v w i : Nat} (h0 : w <= v) (hi : i < 20) : IntKind.u64.wrap (1 - IntKind.u64.wrap ((IntKind.u64.wrap (IntKind.u64.wrap (IntKind.u64.wrap ((rowOf (dg2 (v - w) v i)).getD ((i : Int)).toNat 0 + 65536) - (rowOf (dg w)).getD ((i : Int)).toNat 0) - ((cyM v w i : Nat) : Int))).tdiv 65536)) = ((cyM v w (i + 1) : Nat) : Int) /\
  (rowOf (dg2 (v - w) v i)).set ((i : Int)).toNat ((IntKind.u64.wrap (IntKind.u64.wrap (IntKind.u64.wrap ((rowOf (dg2 (v - w) v i)).getD ((i : Int)).toNat 0 + 65536) - (rowOf (dg w)).getD ((i : Int)).toNat 0) - ((cyM v w i : Nat) : Int))).tmod 65536) = rowOf (dg2 (v - w) v (i + 1)) := by
 have b1 := dg_lt v i
 have b2 := dg_lt w i
 have b3 := cyM_le h0 i
 obtain ⟨e1, e2, e3, e4⟩ := cyM_step h0 i
 have eX : IntKind.u64.wrap (IntKind.u64.wrap (IntKind.u64.wrap ((rowOf (dg2 (v - w) v i)).getD ((i : Int)).toNat 0 + 65536) - (rowOf (dg w)).getD ((i : Int)).toNat 0) - ((cyM v w i : Nat) : Int)) = ((dg v i + 65536 - dg w i - cyM v w i : Nat) : Int) := by
  rw [Int.toNat_natCast, dg2_get _ _ hi, rowOf_get hi]
  rw [show ((dg v i : Nat) : Int) + 65536 = ((dg v i + 65536 : Nat) : Int) by omega, uw (by omega), show ((dg v i + 65536 : Nat) : Int) - ((dg w i : Nat) : Int) = ((dg v i + 65536 - dg w i : Nat) : Int) by omega, uw (by omega), show ((dg v i + 65536 - dg w i : Nat) : Int) - ((cyM v w i : Nat) : Int) = ((dg v i + 65536 - dg w i - cyM v w i : Nat) : Int) by omega, uw (by omega)]
 rw [eX]
 refine ⟨?_, ?_⟩
 ·show IntKind.u64.wrap (1 - IntKind.u64.wrap (((dg v i + 65536 - dg w i - cyM v w i) / 65536 : Nat) : Int)) = _
  rw [uw (by omega), <- e2]
  rw [show (1 : Int) - (((dg v i + 65536 - dg w i - cyM v w i) / 65536 : Nat) : Int) = ((1 - (dg v i + 65536 - dg w i - cyM v w i) / 65536 : Nat) : Int) by omega, uw (by omega)]
 ·show (rowOf (dg2 (v - w) v i)).set ((i : Int)).toNat (((dg v i + 65536 - dg w i - cyM v w i) % 65536 : Nat) : Int) = _
  rw [e1, Int.toNat_natCast, dg2_set _ _ hi]
theorem plus_ok (v w : Nat) : PF 47 (.cons (.arrI .u64 20 fun _ => rowOf (dg v)) (.cons (.arrI .u64 20 fun _ => rowOf (dg w)) .nil)) (.arrI .u64 20 fun _ => rowOf (dg (v + w))) := by
 refine tX qf47 F0_ok (.any) rfl ?_
 conv => arg 5; cbv
 refine run_inv (ι := Nat) (fun i => 20 - i) (fun i => i <= 20) (plA v w) (plS v w) 3 0 (fun i => i) (by rfl) (by rfl) (Nat.zero_le _) ?_ ⟨iR, ⟨rfl, by rw [cyP_zero]; rfl⟩, iR, iR, iR, trivial⟩ ⟨⟨rfl, rfl, (dg2_zero (v + w) v).symm⟩, iR, iR, trivial⟩
 intro i hi ih
 refine bX F0_ok (.any) _ rfl ?_
 conv => arg 5; cbv
 refine ⟨fun h => ?_, fun h => ?_⟩
 ·have h : (i : Int) < 20 := of_decide_eq_true h
  have hi2 : i < 20 := by omega
  have c1 : 0 <= (i : Int) /\ (i : Int) < ((20 : Nat) : Int) := ⟨Int.natCast_nonneg i, by omega⟩
  have hw : IntKind.i64.wrap ((i : Int) + 1) = ((i + 1 : Nat) : Int) := by rw [IntWalk.i64_in _ ⟨by omega, by omega⟩]; omega
  have st := plus_stp (v := v) (w := w) hi2
  exact ⟨⟨c1, c1, c1, c1, (by show drawOK _ _ = true; decide +kernel), by decide, c1, c1, by decide, trivial⟩, ih (i + 1) (fun i => i) (by omega) (by omega) (by rfl) ⟨⟨rfl, hw⟩, ⟨rfl, st.1⟩, iR, iR, iR, trivial⟩ ⟨⟨rfl, rfl, st.2⟩, iR, iR, trivial⟩⟩
 ·have h : ¬ (i : Int) < 20 := of_decide_eq_false h
  obtain rfl : i = 20 := by omega
  exact ⟨rfl, rfl, rfl, dg2_all _ _⟩
def mnA (v w i : Nat) : Env := [(6, .int .i64 fun _ => (i : Int)), (5, .int .u64 fun _ => ((cyM v w i : Nat) : Int)), (4, .ptr 2 0), (3, .ptr 1 0), (2, .ptr 0 0)]
def mnS (v w i : Nat) : Store := [(0, .var (.arrI .u64 20 fun _ => rowOf (dg2 (v - w) v i))), (1, .var (.arrI .u64 20 fun _ => rowOf (dg w))), (2, .var (.arrI .u64 20 fun _ => List.replicate 20 0))]
theorem minus_ok (v w : Nat) (h0 : w <= v) : PF 99 (.cons (.arrI .u64 20 fun _ => rowOf (dg v)) (.cons (.arrI .u64 20 fun _ => rowOf (dg w)) .nil)) (.arrI .u64 20 fun _ => rowOf (dg (v - w))) := by
 refine tX qf99 F0_ok (.any) rfl ?_
 conv => arg 5; cbv
 refine run_inv (ι := Nat) (fun i => 20 - i) (fun i => i <= 20) (mnA v w) (mnS v w) 3 0 (fun i => i) (by rfl) (by rfl) (Nat.zero_le _) ?_ ⟨iR, ⟨rfl, by rw [cyM_zero h0]; rfl⟩, iR, iR, iR, trivial⟩ ⟨⟨rfl, rfl, (dg2_zero (v - w) v).symm⟩, iR, iR, trivial⟩
 intro i hi ih
 refine bX F0_ok (.any) _ rfl ?_
 conv => arg 5; cbv
 refine ⟨fun h => ?_, fun h => ?_⟩
 ·have h : (i : Int) < 20 := of_decide_eq_true h
  have hi2 : i < 20 := by omega
  have c1 : 0 <= (i : Int) /\ (i : Int) < ((20 : Nat) : Int) := ⟨Int.natCast_nonneg i, by omega⟩
  have hw : IntKind.i64.wrap ((i : Int) + 1) = ((i + 1 : Nat) : Int) := by rw [IntWalk.i64_in _ ⟨by omega, by omega⟩]; omega
  have st := minus_stp h0 hi2
  exact ⟨⟨c1, c1, c1, c1, (by show drawOK _ _ = true; decide +kernel), by decide, c1, c1, by decide, trivial⟩, ih (i + 1) (fun i => i) (by omega) (by omega) (by rfl) ⟨⟨rfl, hw⟩, ⟨rfl, st.1⟩, iR, iR, iR, trivial⟩ ⟨⟨rfl, rfl, st.2⟩, iR, iR, trivial⟩⟩
 ·have h : ¬ (i : Int) < 20 := of_decide_eq_false h
  obtain rfl : i = 20 := by omega
  exact ⟨rfl, rfl, rfl, dg2_all _ _⟩
def leA (i : Int) : Env := [(5, .int .i64 fun _ => i), (3, .ptr 1 0), (2, .ptr 0 0)]
def leS (v w : Nat) : Store := [(0, .var (.arrI .u64 20 fun _ => rowOf (dg v))), (1, .var (.arrI .u64 20 fun _ => rowOf (dg w)))]
theorem rfless_ok (v w : Nat) (hv : v < D20) (hw : w < D20) : PF 98 (.cons (.arrI .u64 20 fun _ => rowOf (dg v)) (.cons (.arrI .u64 20 fun _ => rowOf (dg w)) .nil)) (.bool fun _ => decide (v < w)) := by
 refine tX qf98 F0_ok (.any) rfl ?_
 conv => arg 5; cbv
 refine run_inv (ι := Int) (fun i => (i + 1).toNat) (fun i => -1 <= i /\ i <= 19 /\ v / 65536 ^ (i + 1).toNat = w / 65536 ^ (i + 1).toNat) leA (fun _ => leS v w) 2 19 (fun i => i) (by rfl) (by rfl) ⟨by decide, by decide, by rw [show ((19 : Int) + 1).toNat = 20 from rfl, Nat.div_eq_of_lt hv, Nat.div_eq_of_lt hw]⟩ ?_ ⟨iR, iR, iR, trivial⟩ ⟨iR, iR, trivial⟩
 intro i hi ih
 refine bX F0_ok (.any) _ rfl ?_
 conv => arg 5; cbv
 obtain ⟨i0, i1, he⟩ := hi
 refine ⟨fun h => ?_, fun h => ?_⟩
 ·have h : 0 <= i := of_decide_eq_true h
  obtain ⟨m, rfl⟩ : ∃ m : Nat, i = m := ⟨i.toNat, by omega⟩
  have c1 : 0 <= (m : Int) /\ (m : Int) < ((20 : Nat) : Int) := ⟨h, by omega⟩
  have hm : m < 20 := by omega
  have hw1 : IntKind.i64.wrap ((m : Int) - 1) = (m : Int) - 1 := IntWalk.i64_in _ ⟨by omega, by omega⟩
  have g1 : ∀ u : Nat, (rowOf (dg u)).getD ((m : Int)).toNat 0 = ((dg u m : Nat) : Int) := fun u => by rw [Int.toNat_natCast, rowOf_get hm]
  have he : v / 65536 ^ (m + 1) = w / 65536 ^ (m + 1) := by rwa [show ((m : Int) + 1).toNat = m + 1 by omega] at he
  refine ⟨⟨c1, c1, c1, c1, (by show drawOK _ _ = true; decide +kernel), trivial⟩, fun q => ⟨⟨c1, c1, c1, c1, (by show drawOK _ _ = true; decide +kernel), trivial⟩, rfl, ?_⟩, fun q => ?_⟩
  ·have q : (((dg v m : Nat) : Int) != ((dg w m : Nat) : Int)) = true := by rw [<- g1 v, <- g1 w]; exact q
   have q : dg v m ≠ dg w m := fun e => by rw [e] at q; simp at q
   show decide ((rowOf (dg v)).getD ((m : Int)).toNat 0 < (rowOf (dg w)).getD ((m : Int)).toNat 0) = decide (v < w)
   rw [g1, g1]
   refine decide_eq_decide.2 ?_
   rw [<- dg_less he q]
   omega
  ·have q : (((dg v m : Nat) : Int) != ((dg w m : Nat) : Int)) = false := by rw [<- g1 v, <- g1 w]; exact q
   have q : dg v m = dg w m := by
    have : ((dg v m : Nat) : Int) = ((dg w m : Nat) : Int) := by simpa using q
    omega
   exact ih ((m : Int) - 1) (fun i => i) ⟨by omega, by omega, by rw [show ((m : Int) - 1 + 1).toNat = m by omega]; exact dg_same he q⟩ (by show ((m : Int) - 1 + 1).toNat < ((m : Int) + 1).toNat; omega) (by rfl) ⟨⟨rfl, hw1⟩, iR, iR, trivial⟩ ⟨iR, iR, trivial⟩
 ·have h : ¬ 0 <= i := of_decide_eq_false h
  obtain rfl : i = -1 := by omega
  rw [show ((-1 : Int) + 1).toNat = 0 from rfl, Nat.pow_zero, Nat.div_one, Nat.div_one] at he
  refine ⟨rfl, ?_⟩
  show decide (v < w) = false
  rw [he]
  exact decide_eq_false (Nat.lt_irrefl _)
noncomputable def Rt0 : Table := addS 47 (.cons (.arrI .u64 20) (.cons (.arrI .u64 20) .nil)) (fun l m => (.arrI .u64 20 fun _ => rowOf (dg (nv (l ()) + nv (m ()))), [fun _ => isRow (l ()), fun _ => isRow (m ())]))
 (addS 99 (.cons (.arrI .u64 20) (.cons (.arrI .u64 20) .nil)) (fun l m => (.arrI .u64 20 fun _ => rowOf (dg (nv (l ()) - nv (m ()))), [fun _ => isRow (l ()), fun _ => isRow (m ()), fun _ => nv (m ()) <= nv (l ())]))
 (addS 98 (.cons (.arrI .u64 20) (.cons (.arrI .u64 20) .nil)) (fun l m => (.bool fun _ => decide (nv (l ()) < nv (m ())), [fun _ => isRow (l ()), fun _ => isRow (m ())])) F0))
theorem Rt0_ok : TableOK Tryz.prog G0 Rt0 := addS_ok qf47.callable (fun l _ m _ h => by
 have e1 : l () = rowOf (dg (nv (l ()))) := h.1
 have e2 : m () = rowOf (dg (nv (m ()))) := h.2.1
 have := plus_ok (nv (l ())) (nv (m ()))
 rw [<- e1, <- e2] at this
 exact this) (addS_ok qf99.callable (fun l _ m _ h => by
 have e1 : l () = rowOf (dg (nv (l ()))) := h.1
 have e2 : m () = rowOf (dg (nv (m ()))) := h.2.1
 have := minus_ok (nv (l ())) (nv (m ())) h.2.2.1
 rw [<- e1, <- e2] at this
 exact this) (addS_ok qf98.callable (fun l _ m _ h => by
 have e1 : l () = rowOf (dg (nv (l ()))) := h.1
 have e2 : m () = rowOf (dg (nv (m ()))) := h.2.1
 have := rfless_ok (nv (l ())) (nv (m ())) (nv_lt _ h.1) (nv_lt _ h.2.1)
 rw [<- e1, <- e2] at this
 exact this) F0_ok))
def twA (i : Int) : Env := [(5, .int .i64 fun _ => i), (4, .ptr 2 0), (2, .ptr 1 0), (1, .ptr 0 0)]
def twP (a b : Int) : PV := .agg (.cons (.int .u64 fun _ => a) (.cons (.int .u64 fun _ => b) .nil))
def twS (v : Nat) (i : Int) : Store := [(0, .var (.arrI .u64 20 fun _ => rowOf (dg v))), (1, .var (twP 0 0)), (2, .var (.agg (.cons (.int .u64 fun _ => ((v / 65536 ^ 4 / 65536 ^ (i + 1).toNat : Nat) : Int)) (.cons (.int .u64 fun _ => ((v % 65536 ^ 4 / 65536 ^ (i + 1).toNat : Nat) : Int)) .nil))))]
def tvA (i : Nat) : Env := [(6, .int .i64 fun _ => (i : Int)), (4, .ptr 2 0), (2, .ptr 1 0), (1, .ptr 0 0)]
def tvS (v : Nat) : Store := [(0, .var (.arrI .u64 20 fun _ => rowOf (dg v))), (1, .var (twP 0 0)), (2, .var (.agg (.cons (.int .u64 fun _ => wHi v) (.cons (.int .u64 fun _ => wLo v) .nil))))]
theorem dg_low4 (v : Nat) {m : Nat} (h : m < 4) : dg (v % 65536 ^ 4) m = dg v m := by
 conv => rhs; rw [<- Nat.mod_add_div v (65536 ^ 4)]
 rw [dg_addmul h]
theorem dg_high4 (v m : Nat) : dg (v / 65536 ^ 4) m = dg v (4 + m) := by
 unfold dg
 rw [Nat.pow_add, <- Nat.div_div_eq_div_mul]
theorem wide_stp {X m : Nat} (hX : X < 65536 ^ 4) : IntKind.u64.wrap (IntKind.u64.wrap (((X / 65536 ^ (m + 1) : Nat) : Int) * 65536) + ((dg X m : Nat) : Int)) = ((X / 65536 ^ m : Nat) : Int) := by
 have e : X / 65536 ^ (m + 1) * 65536 + dg X m = X / 65536 ^ m := by
  unfold dg
  rw [div_B]
  generalize X / 65536 ^ m = Y
  omega
 have b : X / 65536 ^ m < 18446744073709551616 := Nat.lt_of_le_of_lt (Nat.div_le_self _ _) hX
 generalize X / 65536 ^ (m + 1) = Y at *
 rw [show ((Y : Nat) : Int) * 65536 = ((Y * 65536 : Nat) : Int) by omega, uw (by omega), wrap_add (by omega), e]
theorem dwide_ok (v : Nat) (hv : v < 65536 ^ 8) : PF 48 (.cons (.arrI .u64 20 fun _ => rowOf (dg v)) .nil) (.tuple (.cons (.agg (.cons (.int .u64 fun _ => wHi v) (.cons (.int .u64 fun _ => wLo v) .nil))) (.cons (.bool fun _ => true) .nil))) := by
 refine tX qf48 Rt0_ok (.any) rfl ?_
 conv => arg 5; cbv
 have z : v / 65536 ^ 4 < 65536 ^ 4 := by rw [Nat.div_lt_iff_lt_mul (by decide), <- Nat.pow_add]; exact hv
 refine run_inv (ι := Int) (fun i => (i + 1).toNat) (fun i => -1 <= i /\ i <= 3) twA (twS v) 3 3 (fun i => i) (by rfl) (by rfl) ⟨by decide, by decide⟩ ?_ ⟨iR, iR, iR, iR, trivial⟩ ⟨iR, ⟨⟨rfl, rfl⟩, ⟨rfl, rfl⟩, rfl⟩, ⟨⟨rfl, ?_⟩, ⟨rfl, ?_⟩, rfl⟩, trivial⟩
 ·intro i hi ih
  refine bX Rt0_ok (.any) _ rfl ?_
  conv => arg 5; cbv
  refine ⟨fun h => ?_, fun h => ?_⟩
  ·have h : 0 <= i := of_decide_eq_true h
   obtain ⟨m, rfl⟩ : ∃ m : Nat, i = m := ⟨i.toNat, by omega⟩
   have hm : m < 4 := by omega
   have c1 : 0 <= (m : Int) /\ (m : Int) < ((20 : Nat) : Int) := ⟨h, by omega⟩
   have hw4 : IntKind.i64.wrap (4 + (m : Int)) = ((4 + m : Nat) : Int) := by rw [IntWalk.i64_in _ ⟨by omega, by omega⟩]; omega
   have c2 : 0 <= IntKind.i64.wrap (4 + (m : Int)) /\ IntKind.i64.wrap (4 + (m : Int)) < ((20 : Nat) : Int) := by rw [hw4]; omega
   have hw1 : IntKind.i64.wrap ((m : Int) - 1) = (m : Int) - 1 := IntWalk.i64_in _ ⟨by omega, by omega⟩
   have n1 : ((m : Int) + 1).toNat = m + 1 := by omega
   have n2 : ((m : Int) - 1 + 1).toNat = m := by omega
   have vh : IntKind.u64.wrap (IntKind.u64.wrap (((v / 65536 ^ 4 / 65536 ^ ((m : Int) + 1).toNat : Nat) : Int) * 65536) + (rowOf (dg v)).getD (IntKind.i64.wrap (4 + (m : Int))).toNat 0) = ((v / 65536 ^ 4 / 65536 ^ ((m : Int) - 1 + 1).toNat : Nat) : Int) := by
    rw [hw4, n1, n2, Int.toNat_natCast, rowOf_get (by omega), <- dg_high4]
    exact wide_stp z
   have vl : IntKind.u64.wrap (IntKind.u64.wrap (((v % 65536 ^ 4 / 65536 ^ ((m : Int) + 1).toNat : Nat) : Int) * 65536) + (rowOf (dg v)).getD ((m : Int)).toNat 0) = ((v % 65536 ^ 4 / 65536 ^ ((m : Int) - 1 + 1).toNat : Nat) : Int) := by
    rw [n1, n2, Int.toNat_natCast, rowOf_get (by omega), <- dg_low4 v hm]
    exact wide_stp (Nat.mod_lt _ (by decide))
   exact ⟨⟨c1, c1, (by show drawOK _ _ = true; decide +kernel), c2, c2, (by show drawOK _ _ = true; decide +kernel), trivial⟩, ih ((m : Int) - 1) (fun i => i) ⟨by omega, by omega⟩ (by show ((m : Int) - 1 + 1).toNat < ((m : Int) + 1).toNat; omega) (by rfl) ⟨⟨rfl, hw1⟩, iR, iR, iR, trivial⟩ ⟨iR, iR, ⟨⟨rfl, vh⟩, ⟨rfl, vl⟩, rfl⟩, trivial⟩⟩
  ·have h : ¬ 0 <= i := of_decide_eq_false h
   obtain rfl : i = -1 := by omega
   have eh : ((v / 65536 ^ 4 / 65536 ^ ((-1 : Int) + 1).toNat : Nat) : Int) = wHi v := by
    rw [show ((-1 : Int) + 1).toNat = 0 from rfl, Nat.pow_zero, Nat.div_one]; rfl
   have el : ((v % 65536 ^ 4 / 65536 ^ ((-1 : Int) + 1).toNat : Nat) : Int) = wLo v := by
    rw [show ((-1 : Int) + 1).toNat = 0 from rfl, Nat.pow_zero, Nat.div_one]; rfl
   refine run_inv (ι := Nat) (fun i => 20 - i) (fun i => 8 <= i /\ i <= 20) tvA (fun _ => tvS v) 3 8 (fun i => i) (by rfl) (by rfl) ⟨by decide, by decide⟩ ?_ ⟨iR, iR, iR, iR, trivial⟩ ⟨iR, iR, ⟨⟨rfl, eh⟩, ⟨rfl, el⟩, rfl⟩, trivial⟩
   intro i hi2 ih2
   refine bX Rt0_ok (.any) _ rfl ?_
   conv => arg 5; cbv
   refine ⟨fun h => ?_, fun h => ⟨rfl, ⟨⟨rfl, rfl⟩, ⟨rfl, rfl⟩, rfl⟩, rfl, rfl⟩⟩
   have h : (i : Int) < 20 := of_decide_eq_true h
   have c1 : 0 <= (i : Int) /\ (i : Int) < ((20 : Nat) : Int) := ⟨by omega, by omega⟩
   have hw : IntKind.i64.wrap ((i : Int) + 1) = ((i + 1 : Nat) : Int) := by rw [IntWalk.i64_in _ ⟨by omega, by omega⟩]; omega
   have e0 : (rowOf (dg v)).getD ((i : Int)).toNat 0 = 0 := by
    rw [Int.toNat_natCast, rowOf_get (by omega), dg_big (Nat.lt_of_lt_of_le hv (Nat.pow_le_pow_right (by decide) hi2.1))]; rfl
   refine ⟨⟨c1, c1, trivial⟩, fun q => ?_, fun q => ?_⟩
   ·have q : ((rowOf (dg v)).getD ((i : Int)).toNat 0 != 0) = true := q
    rw [e0] at q
    exact absurd q (by decide)
   ·exact ih2 (i + 1) (fun i => i) ⟨by omega, by omega⟩ (by omega) (by rfl) ⟨⟨rfl, hw⟩, iR, iR, iR, trivial⟩ ⟨iR, iR, iR, trivial⟩
 ·rw [show ((3 : Int) + 1).toNat = 4 from rfl, Nat.div_eq_of_lt z]; rfl
 ·rw [show ((3 : Int) + 1).toNat = 4 from rfl, Nat.div_eq_of_lt (Nat.mod_lt _ (by decide))]; rfl
def pwA (n : Int) (i : Nat) : Env := [(4, .int .i64 fun _ => (i : Int)), (3, .ptr 1 0), (2, .ptr 0 0), (0, .int .i64 fun _ => n)]
def pwS (i : Nat) : Store := [(0, .var (.arrI .u64 20 fun _ => List.replicate 20 0)), (1, .var (.arrI .u64 20 fun _ => rowOf (dg (2 ^ i))))]
theorem power_ok (n : Nat) (hn : n <= 300) : PF 97 (.cons (.int .i64 fun _ => (n : Int)) .nil) (.arrI .u64 20 fun _ => rowOf (dg (2 ^ n))) := by
 refine tX qf97 Rt0_ok (.any) rfl ?_
 conv => arg 5; cbv
 refine run_inv (ι := Nat) (fun i => n - i) (fun i => i <= n) (pwA n) pwS 2 0 (fun i => i) (by rfl) (by rfl) (Nat.zero_le _) ?_ ⟨iR, iR, iR, iR, trivial⟩ ⟨iR, ⟨rfl, rfl, by show _ = rowOf (dg (2 ^ 0)); rw [Nat.pow_zero, <- row_one]⟩, trivial⟩
 intro i hi ih
 refine bX Rt0_ok (.any) _ rfl ?_
 conv => arg 5; cbv
 refine ⟨fun h => ?_, fun h => ?_⟩
 ·have h : (i : Int) < (n : Int) := of_decide_eq_true h
  have hw : IntKind.i64.wrap ((i : Int) + 1) = ((i + 1 : Nat) : Int) := by rw [IntWalk.i64_in _ ⟨by omega, by omega⟩]; omega
  refine ⟨⟨isRow_of _, isRow_of _, trivial⟩, ih (i + 1) (fun i => i) (by omega) (by omega) (by rfl) ⟨⟨rfl, hw⟩, iR, iR, iR, trivial⟩ ⟨iR, ⟨rfl, rfl, ?_⟩, trivial⟩⟩
  show rowOf (dg (nv (rowOf (dg (2 ^ i))) + nv (rowOf (dg (2 ^ i))))) = rowOf (dg (2 ^ (i + 1)))
  rw [row_add, Nat.pow_succ, Nat.mul_two]
 ·have h : ¬ (i : Int) < (n : Int) := of_decide_eq_false h
  have e : i = n := by omega
  refine ⟨rfl, rfl, rfl, ?_⟩
  rw [e]
def tmA (i : Nat) : Env := [(6, .int .i64 fun _ => (i : Int)), (5, .ptr 3 0), (4, .ptr 2 0), (3, .ptr 1 0), (2, .ptr 0 0)]
def tmT (v w : Nat) (i : Nat) : Store := [(0, .var (.arrI .u64 20 fun _ => rowOf (dg v))), (1, .var (.arrI .u64 20 fun _ => rowOf (dg w))), (2, .var (.arrI .u64 20 fun _ => List.replicate 20 0)), (3, .var (.arrI .u64 20 fun _ => rowOf (dg ((v % 65536 ^ i) * (w % 65536 ^ 8)))))]
def tnA (o d w i k : Nat) : Env := [(8, .int .i64 fun _ => (k : Int)), (7, .int .u64 fun _ => ((tmS o d w i k / 65536 ^ (i + k) : Nat) : Int)), (6, .int .i64 fun _ => (i : Int)), (5, .ptr 3 0), (4, .ptr 2 0), (3, .ptr 1 0), (2, .ptr 0 0)]
def tnS (v o d w i k : Nat) : Store := [(0, .var (.arrI .u64 20 fun _ => rowOf (dg v))), (1, .var (.arrI .u64 20 fun _ => rowOf (dg w))), (2, .var (.arrI .u64 20 fun _ => List.replicate 20 0)), (3, .var (.arrI .u64 20 fun _ => rowOf (tmR o d w i k)))]
theorem tmS_zero (o d w i : Nat) : tmS o d w i 0 / 65536 ^ (i + 0) = 0 := by
 refine Nat.div_eq_of_lt ?_
 unfold tmS
 rw [show min 0 8 = 0 from rfl, Nat.pow_zero, Nat.mod_one, Nat.mul_zero, Nat.add_zero]
 exact Nat.mod_lt _ (Nat.pow_pos (by omega))
theorem dtimes_ok (v w : Nat) : PF 73 (.cons (.arrI .u64 20 fun _ => rowOf (dg v)) (.cons (.arrI .u64 20 fun _ => rowOf (dg w)) .nil)) (.arrI .u64 20 fun _ => rowOf (dg ((v % 65536 ^ 8) * (w % 65536 ^ 8)))) := by
 refine tX qf73 Rt0_ok (.any) rfl ?_
 conv => arg 5; cbv
 refine run_inv (ι := Nat) (fun i => 8 - i) (fun i => i <= 8) tmA (tmT v w) 4 0 (fun i => i) (by rfl) (by rfl) (Nat.zero_le _) ?_ ⟨iR, iR, iR, iR, iR, trivial⟩ ⟨iR, iR, iR, ⟨rfl, rfl, by show _ = rowOf (dg ((v % 65536 ^ 0) * _)); rw [Nat.pow_zero, Nat.mod_one, Nat.zero_mul, <- rowOf_zero]; exact rowOf_ext fun k _ => (dg_zero k).symm⟩, trivial⟩
 intro i hi ih
 refine bX Rt0_ok (.any) _ rfl ?_
 conv => arg 5; cbv
 refine ⟨fun h => ?_, fun h => ?_⟩
 ·have h : (i : Int) < 8 := of_decide_eq_true h
  have hi2 : i < 8 := by omega
  have hwi : IntKind.i64.wrap ((i : Int) + 1) = ((i + 1 : Nat) : Int) := by rw [IntWalk.i64_in _ ⟨by omega, by omega⟩]; omega
  obtain ⟨o, ho⟩ : ∃ o, o = (v % 65536 ^ i) * (w % 65536 ^ 8) := ⟨_, rfl⟩
  obtain ⟨d, hd⟩ : ∃ d, d = dg v i := ⟨_, rfl⟩
  refine run_inv (ι := Nat) (fun k => 12 - k) (fun k => k <= 12) (tnA o d w i) (tnS v o d w i) 4 0 (fun i => i) (by rfl) (by rfl) (Nat.zero_le _) ?_ ⟨iR, ⟨rfl, by rw [tmS_zero]; rfl⟩, iR, iR, iR, iR, iR, trivial⟩ ⟨iR, iR, iR, ⟨rfl, rfl, by rw [<- ho]; exact (tmR_zero _ _ _ _).symm⟩, trivial⟩
  intro k hk ih2
  refine bX Rt0_ok (.any) _ rfl ?_
  conv => arg 5; cbv
  refine ⟨fun g => ?_, fun g => ?_⟩
  ·have g : (k : Int) < 12 := of_decide_eq_true g
   have hw4 : IntKind.i64.wrap ((i : Int) + (k : Int)) = ((i + k : Nat) : Int) := by rw [IntWalk.i64_in _ ⟨by omega, by omega⟩]; omega
   have hwk : IntKind.i64.wrap ((k : Int) + 1) = ((k + 1 : Nat) : Int) := by rw [IntWalk.i64_in _ ⟨by omega, by omega⟩]; omega
   have hik : i + k < 20 := by omega
   have c2 : 0 <= IntKind.i64.wrap ((i : Int) + (k : Int)) /\ IntKind.i64.wrap ((i : Int) + (k : Int)) < ((20 : Nat) : Int) := by rw [hw4]; omega
   have c3 : 0 <= (i : Int) /\ (i : Int) < ((20 : Nat) : Int) := by omega
   have c4 : 0 <= (k : Int) /\ (k : Int) < ((20 : Nat) : Int) := by omega
   have b1 : tmS o d w i k / 65536 ^ (i + k) < 65536 := tmS_cy (by rw [hd]; exact dg_lt v i) o w i k
   have b2 := dg_lt o (i + k)
   have eO : (rowOf (tmR o d w i k)).getD (IntKind.i64.wrap ((i : Int) + (k : Int))).toNat 0 = ((dg o (i + k) : Nat) : Int) := by
    rw [hw4, Int.toNat_natCast, tmR_get _ _ _ hik]
   have eX : IntKind.u64.wrap ((rowOf (tmR o d w i k)).getD (IntKind.i64.wrap ((i : Int) + (k : Int))).toNat 0 + ((tmS o d w i k / 65536 ^ (i + k) : Nat) : Int)) = ((tmS o d w i k / 65536 ^ (i + k) + dg o (i + k) : Nat) : Int) := by
    rw [eO, wrap_add (by omega), Nat.add_comm]
   refine ⟨fun g2 => ⟨⟨c2, c2, trivial⟩, fun g3 => ?_, fun g3 => ?_⟩, fun g2 => ?_⟩
   ·have g3 : (k : Int) < 8 := of_decide_eq_true g3
    have k8 : k < 8 := by omega
    have b3 := dg_lt w k
    have b4 : d < 65536 := by rw [hd]; exact dg_lt v i
    have eY : IntKind.u64.wrap (IntKind.u64.wrap ((rowOf (tmR o d w i k)).getD (IntKind.i64.wrap ((i : Int) + (k : Int))).toNat 0 + ((tmS o d w i k / 65536 ^ (i + k) : Nat) : Int)) + IntKind.u64.wrap ((rowOf (dg v)).getD ((i : Int)).toNat 0 * (rowOf (dg w)).getD ((k : Int)).toNat 0)) = ((tmS o d w i k / 65536 ^ (i + k) + dg o (i + k) + (if k < 8 then d * dg w k else 0) : Nat) : Int) := by
     have hm : d * dg w k <= 65535 * 65535 := Nat.mul_le_mul (by omega) (by omega)
     rw [eX, Int.toNat_natCast, Int.toNat_natCast, rowOf_get (by omega), rowOf_get (by omega), if_pos k8, <- hd, wrap_mul (by omega), wrap_add (by omega)]
    refine ⟨⟨c3, c3, c4, c4, (by show drawOK _ _ = true; decide +kernel), by decide, c2, c2, by decide, trivial⟩, ih2 (k + 1) (fun i => i) (by omega) (by omega) (by rfl) ⟨⟨rfl, hwk⟩, ⟨rfl, ?_⟩, iR, iR, iR, iR, iR, trivial⟩ ⟨iR, iR, iR, ⟨rfl, rfl, ?_⟩, trivial⟩⟩
    ·refine (congrArg (fun x : Int => IntKind.u64.wrap (x.tdiv 65536)) eY).trans ?_
     have hm : (if k < 8 then d * dg w k else 0) <= 65535 * 65535 := by rw [if_pos k8]; exact Nat.mul_le_mul (by omega) (by omega)
     show IntKind.u64.wrap (((tmS o d w i k / 65536 ^ (i + k) + dg o (i + k) + (if k < 8 then d * dg w k else 0)) / 65536 : Nat) : Int) = _
     rw [uw (by omega), tmS_next]
    ·refine (congrArg (fun x : Int => (rowOf (tmR o d w i k)).set (IntKind.i64.wrap ((i : Int) + (k : Int))).toNat (x.tmod 65536)) eY).trans ?_
     show (rowOf (tmR o d w i k)).set (IntKind.i64.wrap ((i : Int) + (k : Int))).toNat (((tmS o d w i k / 65536 ^ (i + k) + dg o (i + k) + (if k < 8 then d * dg w k else 0)) % 65536 : Nat) : Int) = _
     rw [hw4, Int.toNat_natCast, tmR_set _ _ _ hik]
   ·have g3 : ¬ (k : Int) < 8 := of_decide_eq_false g3
    have k8 : ¬ k < 8 := by omega
    have eY : IntKind.u64.wrap ((rowOf (tmR o d w i k)).getD (IntKind.i64.wrap ((i : Int) + (k : Int))).toNat 0 + ((tmS o d w i k / 65536 ^ (i + k) : Nat) : Int)) = ((tmS o d w i k / 65536 ^ (i + k) + dg o (i + k) + (if k < 8 then d * dg w k else 0) : Nat) : Int) := by
     rw [eX, if_neg k8, Nat.add_zero]
    refine ⟨⟨by decide, c2, c2, by decide, trivial⟩, ih2 (k + 1) (fun i => i) (by omega) (by omega) (by rfl) ⟨⟨rfl, hwk⟩, ⟨rfl, ?_⟩, iR, iR, iR, iR, iR, trivial⟩ ⟨iR, iR, iR, ⟨rfl, rfl, ?_⟩, trivial⟩⟩
    ·refine (congrArg (fun x : Int => IntKind.u64.wrap (x.tdiv 65536)) eY).trans ?_
     have hm : (if k < 8 then d * dg w k else 0) = 0 := if_neg k8
     show IntKind.u64.wrap (((tmS o d w i k / 65536 ^ (i + k) + dg o (i + k) + (if k < 8 then d * dg w k else 0)) / 65536 : Nat) : Int) = _
     rw [uw (by omega), tmS_next]
    ·refine (congrArg (fun x : Int => (rowOf (tmR o d w i k)).set (IntKind.i64.wrap ((i : Int) + (k : Int))).toNat (x.tmod 65536)) eY).trans ?_
     show (rowOf (tmR o d w i k)).set (IntKind.i64.wrap ((i : Int) + (k : Int))).toNat (((tmS o d w i k / 65536 ^ (i + k) + dg o (i + k) + (if k < 8 then d * dg w k else 0)) % 65536 : Nat) : Int) = _
     rw [hw4, Int.toNat_natCast, tmR_set _ _ _ hik]
   ·have g2 : ¬ IntKind.i64.wrap ((i : Int) + (k : Int)) < 20 := of_decide_eq_false g2
    rw [hw4] at g2
    omega
  ·have g : ¬ (k : Int) < 12 := of_decide_eq_false g
   have e12 : k = 12 := by omega
   refine ih (i + 1) (fun i => i) (by omega) (by omega) (by rfl) ⟨⟨rfl, hwi⟩, iR, iR, iR, iR, trivial⟩ ⟨iR, iR, iR, ⟨rfl, rfl, ?_⟩, trivial⟩
   show rowOf (tmR o d w i k) = rowOf (dg ((v % 65536 ^ (i + 1)) * (w % 65536 ^ 8)))
   rw [e12, ho, hd]
   exact tmR_end v w
 ·have h : ¬ (i : Int) < 8 := of_decide_eq_false h
  have e : i = 8 := by omega
  refine ⟨rfl, rfl, rfl, ?_⟩
  rw [e]
def ofD (h l i : Nat) (k : Nat) : Nat := if k < 4 then (if k < i then dg l k else 0) else if k < 4 + i then dg h (k - 4) else 0
def ofD2 (h l i : Nat) (k : Nat) : Nat := if k < 4 then (if k < i + 1 then dg l k else 0) else if k < 4 + i then dg h (k - 4) else 0
theorem dg_low {h l k : Nat} (hl : l < 2 ^ 64) (hk : k < 4) : dg (h * 2 ^ 64 + l) k = dg l k := by
 unfold dg
 have : k = 0 \/ k = 1 \/ k = 2 \/ k = 3 := by omega
 rcases this with rfl | rfl | rfl | rfl <;> omega
theorem dg_high {h l k : Nat} (hl : l < 2 ^ 64) : dg (h * 2 ^ 64 + l) (4 + k) = dg h k := by
 unfold dg
 rw [Nat.pow_add, <- Nat.div_div_eq_div_mul]
 congr 2
 omega
theorem dg_small {h k : Nat} (hh : h < 2 ^ 64) (hk : 4 <= k) : dg h k = 0 := by
 unfold dg
 obtain ⟨d, rfl⟩ : ∃ d, k = 4 + d := ⟨k - 4, by omega⟩
 rw [Nat.pow_add, <- Nat.div_div_eq_div_mul, show h / 65536 ^ 4 = 0 by omega, Nat.zero_div]
theorem ofD_four {h l k : Nat} (hh : h < 2 ^ 64) (hl : l < 2 ^ 64) (hk : k < 20) : ofD h l 4 k = dg (h * 2 ^ 64 + l) k := by
 unfold ofD
 by_cases k4 : k < 4
 ·rw [if_pos k4, if_pos k4, dg_low hl k4]
 ·obtain ⟨d, rfl⟩ : ∃ d, k = 4 + d := ⟨k - 4, by omega⟩
  rw [if_neg k4, dg_high hl, show 4 + d - 4 = d by omega]
  by_cases d4 : 4 + d < 4 + 4
  ·rw [if_pos d4]
  ·rw [if_neg d4, dg_small hh (by omega)]
def xoA (i : Int) : Env := [(4, .int .i64 fun _ => i), (3, .ptr 2 0), (2, .ptr 1 0), (1, .ptr 0 0)]
def xoS (h l : Nat) (i : Int) : Store := [(0, .var (.agg (.cons (.int .u64 fun _ => ((h / 65536 ^ i.toNat : Nat) : Int)) (.cons (.int .u64 fun _ => ((l / 65536 ^ i.toNat : Nat) : Int)) .nil)))), (1, .var (.arrI .u64 20 fun _ => List.replicate 20 0)), (2, .var (.arrI .u64 20 fun _ => rowOf (ofD h l i.toNat)))]
theorem ref1Of_ok (h l : Nat) (hh : h < 2 ^ 64) (hl : l < 2 ^ 64) : PF 46 (.cons (.agg (.cons (.int .u64 fun _ => (h : Int)) (.cons (.int .u64 fun _ => (l : Int)) .nil))) .nil) (.arrI .u64 20 fun _ => rowOf (dg (h * 2 ^ 64 + l))) := by
 refine qf46.tree (mkO_ok F0_ok) false 40 rfl ?_
 conv => arg 5; cbv
 refine run_inv (ι := Int) (fun i => (4 - i).toNat) (fun i => 0 <= i /\ i <= 4) xoA (xoS h l) 3 0 (fun i => i) (by rfl) (by rfl) ⟨by omega, by omega⟩ ?_ ⟨iR, iR, iR, iR, trivial⟩ ⟨?_, iR, ?_, trivial⟩
 ·intro i hi ih
  refine explore_ok (ok _) (mkO_ok F0_ok) (u := false) 20 _ rfl ?_
  conv => arg 5; cbv
  refine ⟨fun g => ?_, fun g => ?_⟩
  ·have g : i < 4 := of_decide_eq_true g
   obtain ⟨m, rfl⟩ : ∃ m : Nat, i = m := ⟨i.toNat, by omega⟩
   have hw : IntKind.i64.wrap ((m : Int) + 1) = m + 1 := IntWalk.i64_in _ ⟨by omega, by omega⟩
   have hw4 : IntKind.i64.wrap (4 + (m : Int)) = 4 + m := IntWalk.i64_in _ ⟨by omega, by omega⟩
   have hn0 : ¬ (65536 : Int) = 0 := by decide
   have c1 : 0 <= (m : Int) /\ (m : Int) < 20 := ⟨by omega, by omega⟩
   have c2 : 0 <= IntKind.i64.wrap (4 + (m : Int)) /\ IntKind.i64.wrap (4 + (m : Int)) < 20 := by rw [hw4]; omega
   have e1 : ((m : Int) + 1).toNat = m + 1 := by omega
   have hdv : ∀ x : Nat, x < 2 ^ 64 -> IntKind.u64.wrap (((x / 65536 ^ (m : Int).toNat : Nat) : Int).tdiv 65536) = ((x / 65536 ^ ((m : Int) + 1).toNat : Nat) : Int) := fun x hx => by
    rw [e1, Int.toNat_natCast]
    have := Nat.div_le_self x (65536 ^ m)
    have h2 := Nat.div_le_self (x / 65536 ^ m) 65536
    show IntKind.u64.wrap ((x / 65536 ^ m / 65536 : Nat) : Int) = _
    rw [u64_wrap (by omega), Nat.pow_succ, Nat.div_div_eq_div_mul]
   refine ⟨⟨hn0, c1, c1, hn0, c2, c2, hn0, hn0, trivial⟩, ih (m + 1) (fun i => i) ⟨by omega, by omega⟩ (by omega) (by rfl) ⟨⟨rfl, hw⟩, iR, iR, iR, trivial⟩ ⟨⟨⟨rfl, hdv h hh⟩, ⟨rfl, hdv l hl⟩, rfl⟩, iR, ⟨rfl, rfl, ?_⟩, trivial⟩⟩
   show ((rowOf (ofD h l (m : Int).toNat)).set (m : Int).toNat ((dg l (m : Int).toNat : Nat) : Int)).set (IntKind.i64.wrap (4 + (m : Int))).toNat ((dg h (m : Int).toNat : Nat) : Int) = rowOf (ofD h l ((m : Int) + 1).toNat)
   rw [hw4, e1, Int.toNat_natCast, show (4 + (m : Int)).toNat = 4 + m by omega]
   have s1 : (rowOf (ofD h l m)).set m ((dg l m : Nat) : Int) = rowOf (ofD2 h l m) := by
    have := rowOf_set (f := ofD h l m) (g := ofD2 h l m) (j := m) (by omega) fun k hk hne => by
     unfold ofD ofD2
     by_cases k4 : k < 4
     ·rw [if_pos k4, if_pos k4]
      by_cases km : k < m
      ·rw [if_pos km, if_pos (by omega)]
      ·rw [if_neg km, if_neg (by omega)]
     ·rw [if_neg k4, if_neg k4]
    rwa [show ofD2 h l m m = dg l m by unfold ofD2; rw [if_pos (by omega), if_pos (by omega)]] at this
   have s2 : (rowOf (ofD2 h l m)).set (4 + m) ((dg h m : Nat) : Int) = rowOf (ofD h l (m + 1)) := by
    have := rowOf_set (f := ofD2 h l m) (g := ofD h l (m + 1)) (j := 4 + m) (by omega) fun k hk hne => by
     unfold ofD ofD2
     by_cases k4 : k < 4
     ·rw [if_pos k4, if_pos k4]
     ·rw [if_neg k4, if_neg k4]
      by_cases km : k < 4 + m
      ·rw [if_pos km, if_pos (by omega)]
      ·rw [if_neg km, if_neg (by omega)]
    rwa [show ofD h l (m + 1) (4 + m) = dg h m by unfold ofD; rw [if_neg (by omega), if_pos (by omega), show 4 + m - 4 = m by omega]] at this
   rw [s1, s2]
  ·have g : ¬ i < 4 := of_decide_eq_false g
   have e : i = 4 := by omega
   subst e
   exact ⟨rfl, rfl, rfl, rowOf_ext fun k hk => ofD_four hh hl hk⟩
 ·exact ⟨⟨rfl, by simp⟩, ⟨rfl, by simp⟩, rfl⟩
 ·exact ⟨rfl, rfl, by
   show List.replicate 20 0 = rowOf (ofD h l 0)
   rw [<- rowOf_zero]
   refine rowOf_ext fun k hk => ?_
   unfold ofD
   by_cases k4 : k < 4
   ·rw [if_pos k4, if_neg (by omega)]
   ·rw [if_neg k4, if_neg (by omega)]⟩
def shWd : Sh := .agg (.cons (.int .u64) (.cons (.int .u64) .nil))
noncomputable def Fx1 : Table := addS 46 (.cons shWd .nil) (fun h l => (.arrI .u64 20 fun _ => rowOf (dg ((h ()).toNat * 2 ^ 64 + (l ()).toNat)), [fun _ => (0 <= h () /\ h () < 2 ^ 64) /\ 0 <= l () /\ l () < 2 ^ 64])) F0
theorem Fx1_ok : TableOK Tryz.prog G0 Fx1 := by
 refine addS_ok qf46.callable (fun h l c => ?_) F0_ok
 have := ref1Of_ok (h ()).toNat (l ()).toNat (by have := c.1; omega) (by have := c.1; omega)
 rw [show (((h ()).toNat : Nat) : Int) = h () by have := c.1; omega, show (((l ()).toNat : Nat) : Int) = l () by have := c.1; omega] at this
 exact this
structure XI (v0 : Nat) (x : Nat × List UInt8) : Prop where
 lt : x.1 < 65536 ^ 20
 all : leftT x.1 x.2 = Lib.decDigits v0
 few : x.1 * 10 ^ x.2.length <= v0
def xtA (x : Nat × List UInt8) : Env := [(4, .str fun _ => toB x.2), (3, .ptr 1 0), (2, .str fun _ => ⟨#[]⟩)]
def xtS (x : Nat × List UInt8) : Store := [(1, .var (.arrI .u64 20 fun _ => rowOf (dg x.1)))]
def xiF (v : Nat) (i : Int) (k : Nat) : Nat := if i < (k : Int) then dg (v / 10) k else dg v k
def xiA (x : Nat × List UInt8) (i : Int) : Env := [(6, .int .i64 fun _ => i), (5, .int .u64 fun _ => ((x.1 / 65536 ^ (i + 1).toNat % 10 : Nat) : Int)), (4, .str fun _ => toB x.2), (3, .ptr 1 0), (2, .str fun _ => ⟨#[]⟩)]
def xiS (x : Nat × List UInt8) (i : Int) : Store := [(1, .var (.arrI .u64 20 fun _ => rowOf (xiF x.1 i)))]
theorem xi_start {v : Nat} (h : v < 65536 ^ 20) : (0 : Int) = ((v / 65536 ^ ((19 : Int) + 1).toNat % 10 : Nat) : Int) /\ rowOf (dg v) = rowOf (xiF v 19) := by
 refine ⟨?_, rowOf_ext fun k hk => ?_⟩
 ·rw [show ((19 : Int) + 1).toNat = 20 from rfl, Nat.div_eq_of_lt h]; rfl
 ·unfold xiF; rw [if_neg (by omega)]
theorem xi_step {v m : Nat} (hm : m < 20) :
  (IntKind.u64.wrap (IntKind.u64.wrap (((v / 65536 ^ ((m : Int) + 1).toNat % 10 : Nat) : Int) * 65536) + (rowOf (xiF v m)).getD (m : Int).toNat 0)).tmod 10 = ((v / 65536 ^ ((m : Int) - 1 + 1).toNat % 10 : Nat) : Int) /\
  (rowOf (xiF v m)).set (m : Int).toNat (IntKind.u64.wrap ((IntKind.u64.wrap (IntKind.u64.wrap (((v / 65536 ^ ((m : Int) + 1).toNat % 10 : Nat) : Int) * 65536) + (rowOf (xiF v m)).getD (m : Int).toNat 0)).tdiv 10)) = rowOf (xiF v ((m : Int) - 1)) := by
 have hg : (rowOf (xiF v m)).getD (m : Int).toNat 0 = ((dg v m : Nat) : Int) := by
  rw [Int.toNat_natCast, rowOf_get hm]
  unfold xiF; rw [if_neg (by omega)]
 have hd := dg_lt v m
 have hr : v / 65536 ^ (m + 1) % 10 < 10 := Nat.mod_lt _ (by omega)
 have e : IntKind.u64.wrap (IntKind.u64.wrap (((v / 65536 ^ ((m : Int) + 1).toNat % 10 : Nat) : Int) * 65536) + (rowOf (xiF v m)).getD (m : Int).toNat 0) = ((v / 65536 ^ (m + 1) % 10 * 65536 + dg v m : Nat) : Int) := by
  rw [hg, show ((m : Int) + 1).toNat = m + 1 by omega]
  generalize v / 65536 ^ (m + 1) % 10 = r at hr ⊢
  rw [show (r : Int) * 65536 = ((r * 65536 : Nat) : Int) by omega, u64_wrap (by omega), show ((r * 65536 : Nat) : Int) + ((dg v m : Nat) : Int) = ((r * 65536 + dg v m : Nat) : Int) by omega, u64_wrap (by omega)]
 rw [e]
 refine ⟨?_, ?_⟩
 ·show (((v / 65536 ^ (m + 1) % 10 * 65536 + dg v m) % 10 : Nat) : Int) = _
  rw [dg_rest, show ((m : Int) - 1 + 1).toNat = m by omega]
 ·show (rowOf (xiF v m)).set (m : Int).toNat (IntKind.u64.wrap (((v / 65536 ^ (m + 1) % 10 * 65536 + dg v m) / 10 : Nat) : Int)) = _
  have hq := dg_lt (v / 10) m
  rw [dg_quot, u64_wrap (by omega), Int.toNat_natCast]
  have := rowOf_set (f := xiF v m) (g := xiF v ((m : Int) - 1)) (j := m) hm fun k hk hne => by
   unfold xiF
   by_cases h1 : (m : Int) < (k : Int)
   ·rw [if_pos h1, if_pos (by omega)]
   ·rw [if_neg h1, if_neg (by omega)]
  rwa [show xiF v ((m : Int) - 1) m = dg (v / 10) m by unfold xiF; rw [if_pos (by omega)]] at this
theorem ref1Text_ok (h l : Int) (hh : 0 <= h /\ h < 2 ^ 64) (hl : 0 <= l /\ l < 2 ^ 64) : PF 49 (.cons (.agg (.cons (.int .u64 fun _ => h) (.cons (.int .u64 fun _ => l) .nil))) .nil) (.str fun _ => toB (Lib.decDigits (h.toNat * 2 ^ 64 + l.toNat))) := by
 refine qf49.tree (mkO_ok Fx1_ok) false 40 rfl ?_
 conv => arg 5; cbv
 refine ⟨⟨⟨hh, hl⟩, trivial⟩, ?_⟩
 have hv0 : h.toNat * 2 ^ 64 + l.toNat < 2 ^ 128 := by omega
 generalize hv : h.toNat * 2 ^ 64 + l.toNat = v0 at hv0
 refine run_inv (ι := Nat × List UInt8) (fun x => 2 * x.1 + (if x.2 = [] then 1 else 0)) (XI v0) xtA xtS 2 (v0, []) (fun i => i) (by rfl) (by rfl) ⟨by show v0 < _; omega, leftT_start v0, by show v0 * 1 <= v0; omega⟩ ?_ ⟨iR, iR, iR, trivial⟩ ⟨⟨rfl, rfl, rfl⟩, trivial⟩
 intro x hx ih
 refine explore_ok (ok _) (mkO_ok Fx1_ok) (u := false) 20 _ rfl ?_
 conv => arg 5; cbv
 refine tree_if (¬ (x.1 = 0 /\ x.2 ≠ [])) (xiA x 19) (xiS x 19) 2 (by rfl) ?_ ?_
 ·refine ⟨fun g => ⟨?_, rfl, fun i => i, by rfl, ⟨iR, ⟨rfl, ?_⟩, iR, iR, iR, trivial⟩, ⟨⟨rfl, rfl, ?_⟩, trivial⟩⟩, fun g => ⟨fun g2 => ⟨?_, rfl, fun i => i, by rfl, ⟨iR, ⟨rfl, ?_⟩, iR, iR, iR, trivial⟩, ⟨⟨rfl, rfl, ?_⟩, trivial⟩⟩, fun g2 => ?_⟩⟩
  ·have g : toB x.2 = ⟨#[]⟩ := of_decide_eq_true g
   intro hn
   apply hn.2
   have := congrArg (fun b => b.data.toList) g
   simpa [toB] using this
  ·exact (xi_start hx.lt).1
  ·exact (xi_start hx.lt).2
  ·have g2 : (!decide (rowOf (dg x.1) = List.replicate 20 0)) = true := g2
   intro hn
   rw [hn.1] at g2
   rw [show rowOf (dg 0) = List.replicate 20 0 by decide] at g2
   simp at g2
  ·exact (xi_start hx.lt).1
  ·exact (xi_start hx.lt).2
  ·have g : ¬ toB x.2 = ⟨#[]⟩ := of_decide_eq_false g
   have g2 : (!decide (rowOf (dg x.1) = List.replicate 20 0)) = false := g2
   have g2 : rowOf (dg x.1) = List.replicate 20 0 := by simpa using g2
   have h0 := rowOf_all hx.lt g2
   have hall := hx.all
   rw [leftT_end _ _ ⟨h0, fun e => g (by rw [e]; rfl)⟩] at hall
   exact ⟨rfl, by show toB x.2 = _; rw [hall]⟩
 intro hnot
 refine run_inv (ι := Int) (fun i => (i + 1).toNat) (fun i => -1 <= i /\ i <= 19) (xiA x) (xiS x) 2 19 (fun i => i) (by rfl) (by rfl) ⟨by omega, by omega⟩ ?_ ⟨iR, iR, iR, iR, iR, trivial⟩ ⟨iR, trivial⟩
 intro i hi ihi
 refine explore_ok (ok _) (mkO_ok Fx1_ok) (u := false) 20 _ rfl ?_
 conv => arg 5; cbv
 refine ⟨fun g => ?_, fun g => ?_⟩
 ·have g : 0 <= i := of_decide_eq_true g
  obtain ⟨m, rfl⟩ : ∃ m : Nat, i = m := ⟨i.toNat, by omega⟩
  have c1 : 0 <= (m : Int) /\ (m : Int) < 20 := ⟨by omega, by omega⟩
  have hn0 : ¬ (10 : Int) = 0 := by decide
  have hw : IntKind.i64.wrap ((m : Int) - 1) = m - 1 := IntWalk.i64_in _ ⟨by omega, by omega⟩
  obtain ⟨s1, s2⟩ := xi_step (v := x.1) (m := m) (by omega)
  refine ⟨⟨c1, c1, hn0, c1, c1, hn0, trivial⟩, ihi (m - 1) (fun i => i) ⟨by omega, by omega⟩ (by omega) (by rfl) ⟨⟨rfl, hw⟩, ⟨rfl, s1⟩, iR, iR, iR, trivial⟩ ⟨⟨rfl, rfl, s2⟩, trivial⟩⟩
 ·have g : ¬ 0 <= i := of_decide_eq_false g
  have e : i = -1 := by omega
  subst e
  have hr : x.1 / 65536 ^ ((-1 : Int) + 1).toNat % 10 = x.1 % 10 := by
   rw [show ((-1 : Int) + 1).toNat = 0 from rfl, Nat.pow_zero, Nat.div_one]
  have hb : bytesOf (rdL rd8 (fun _ => 1) fun _ => PV.int .u8 fun _ => IntKind.u8.wrap (IntKind.u64.wrap (48 + ((x.1 / 65536 ^ ((-1 : Int) + 1).toNat % 10 : Nat) : Int)))) = toB [UInt8.ofNat (48 + x.1 % 10)] := by
   rw [hr]
   have : x.1 % 10 < 10 := Nat.mod_lt _ (by omega)
   rw [show (48 : Int) + ((x.1 % 10 : Nat) : Int) = ((48 + x.1 % 10 : Nat) : Int) by omega, u64_wrap (by omega), IntWalk.u8_in _ ⟨by omega, by omega⟩]
   show bytesOf [((48 + x.1 % 10 : Nat) : Int)] = _
   unfold bytesOf
   simp only [List.foldl_cons, List.foldl_nil, Int.toNat_natCast]
   rfl
  have hlen : (toB x.2).size <= 40 := by
   have hfew := hx.few
   by_cases h0 : x.1 = 0
   ·have : x.2 = [] := Classical.byContradiction fun h => hnot ⟨h0, h⟩
    rw [this]; decide
   ·have h1 : 10 ^ x.2.length <= x.1 * 10 ^ x.2.length := Nat.le_mul_of_pos_left _ (by omega)
    have h2 : x.2.length < 40 := by
     apply Classical.byContradiction
     intro hc
     have : 10 ^ 40 <= 10 ^ x.2.length := Nat.pow_le_pow_right (by omega) (by omega)
     omega
    show (x.2.toArray).size <= 40
    simp; omega
  refine ⟨⟨fun j => rfl, ?_, trivial⟩, ih (x.1 / 10, UInt8.ofNat (48 + x.1 % 10) :: x.2) (fun i => i) ⟨?_, ?_, ?_⟩ ?_ (by rfl) ⟨?_, iR, iR, trivial⟩ ⟨⟨rfl, rfl, ?_⟩, trivial⟩⟩
  ·show (bytesOf (rdL rd8 (fun _ => 1) fun _ => PV.int .u8 fun _ => IntKind.u8.wrap (IntKind.u64.wrap (48 + ((x.1 / 65536 ^ ((-1 : Int) + 1).toNat % 10 : Nat) : Int))))).size + (toB x.2).size <= 9223372036854775807
   rw [hb]
   have : (toB [UInt8.ofNat (48 + x.1 % 10)]).size = 1 := rfl
   omega
  ·have := hx.lt
   show x.1 / 10 < _
   omega
  ·show leftT (x.1 / 10) (UInt8.ofNat (48 + x.1 % 10) :: x.2) = _
   rw [leftT_step _ _ hnot, hx.all]
  ·have hfew := hx.few
   show x.1 / 10 * 10 ^ (x.2.length + 1) <= v0
   have : x.1 / 10 * 10 <= x.1 := Nat.div_mul_le_self _ _
   calc x.1 / 10 * 10 ^ (x.2.length + 1) = x.1 / 10 * 10 * 10 ^ x.2.length := by rw [Nat.pow_succ, Nat.mul_assoc, Nat.mul_comm (10 ^ x.2.length) 10]
    _ <= x.1 * 10 ^ x.2.length := Nat.mul_le_mul_right _ this
    _ <= v0 := hfew
  ·show 2 * (x.1 / 10) + (if UInt8.ofNat (48 + x.1 % 10) :: x.2 = [] then 1 else 0) < 2 * x.1 + (if x.2 = [] then 1 else 0)
   rw [if_neg (by simp)]
   by_cases h0 : x.1 = 0
   ·have : x.2 = [] := Classical.byContradiction fun h => hnot ⟨h0, h⟩
    rw [if_pos this]; omega
   ·omega
  ·show bytesOf _ ++ toB x.2 = toB (UInt8.ofNat (48 + x.1 % 10) :: x.2)
   rw [hb]
   unfold toB
   apply ByteArray.ext
   simp
  ·refine rowOf_ext fun k hk => ?_
   unfold xiF
   rw [if_pos (by omega)]
noncomputable def Rt1 : Table := addS 48 (.cons (.arrI .u64 20) .nil) (fun l => (.tuple (.cons (.agg (.cons (.int .u64 fun _ => wHi (nv (l ()))) (.cons (.int .u64 fun _ => wLo (nv (l ()))) .nil))) (.cons (.bool fun _ => true) .nil)), [fun _ => isRow (l ()), fun _ => nv (l ()) < 65536 ^ 8]))
 (addS 97 (.cons (.int .i64) .nil) (fun n => (.arrI .u64 20 fun _ => rowOf (dg (2 ^ (n ()).toNat)), [fun _ => 0 <= n () /\ n () <= 300]))
 (addS 73 (.cons (.arrI .u64 20) (.cons (.arrI .u64 20) .nil)) (fun l m => (.arrI .u64 20 fun _ => rowOf (dg ((nv (l ()) % 65536 ^ 8) * (nv (m ()) % 65536 ^ 8))), [fun _ => isRow (l ()), fun _ => isRow (m ())]))
 (addS 46 (.cons shWd .nil) (fun h l => (.arrI .u64 20 fun _ => rowOf (dg ((h ()).toNat * 2 ^ 64 + (l ()).toNat)), [fun _ => (0 <= h () /\ h () < 2 ^ 64) /\ 0 <= l () /\ l () < 2 ^ 64]))
 (addS 49 (.cons shWd .nil) (fun h l => (.str fun _ => toB (Lib.decDigits ((h ()).toNat * 2 ^ 64 + (l ()).toNat)), [fun _ => (0 <= h () /\ h () < 2 ^ 64) /\ 0 <= l () /\ l () < 2 ^ 64])) Rt0))))
theorem Rt1_ok : TableOK Tryz.prog G0 Rt1 := addS_ok qf48.callable (fun l _ h => by
 have e1 : l () = rowOf (dg (nv (l ()))) := h.1
 have := dwide_ok (nv (l ())) h.2.1
 rw [<- e1] at this
 exact this) (addS_ok qf97.callable (fun n h => by
 have hn : 0 <= n () /\ n () <= 300 := h.1
 have := power_ok (n ()).toNat (by omega)
 rw [Int.toNat_of_nonneg hn.1] at this
 exact this) (addS_ok qf73.callable (fun l _ m _ h => by
 have e1 : l () = rowOf (dg (nv (l ()))) := h.1
 have e2 : m () = rowOf (dg (nv (m ()))) := h.2.1
 have := dtimes_ok (nv (l ())) (nv (m ()))
 rw [<- e1, <- e2] at this
 exact this) (addS_ok qf46.callable (fun h l c => by
 have := ref1Of_ok (h ()).toNat (l ()).toNat (by have := c.1; omega) (by have := c.1; omega)
 rw [show (((h ()).toNat : Nat) : Int) = h () by have := c.1; omega, show (((l ()).toNat : Nat) : Int) = l () by have := c.1; omega] at this
 exact this) (addS_ok qf49.callable (fun h l c => ref1Text_ok (h ()) (l ()) c.1.1 c.1.2) Rt0_ok))))
def rfbyA (i : Int) : Env := [(7, .int .i64 fun _ => i), (6, .ptr 4 0), (5, .ptr 3 0), (4, .ptr 2 0), (3, .ptr 1 0), (2, .ptr 0 0)]
def rfbyS (v w : Nat) (i : Int) : Store := [(0, .var (.arrI .u64 20 fun _ => rowOf (dg (v % (w * 2 ^ (i + 1).toNat))))), (1, .var (.arrI .u64 20 fun _ => rowOf (dg w))), (2, .var (.arrI .u64 20 fun _ => List.replicate 20 0)), (3, .var (.arrI .u64 20 fun _ => List.replicate 20 0)), (4, .var (.arrI .u64 20 fun _ => rowOf (dg (v / (w * 2 ^ (i + 1).toNat) * 2 ^ (i + 1).toNat))))]
def bzA (i : Int) (k : Nat) : Env := [(9, .int .i64 fun _ => (k : Int)), (8, .ptr 5 0), (7, .int .i64 fun _ => i), (6, .ptr 4 0), (5, .ptr 3 0), (4, .ptr 2 0), (3, .ptr 1 0), (2, .ptr 0 0)]
def bzS (v w : Nat) (i : Int) (k : Nat) : Store := [(0, .var (.arrI .u64 20 fun _ => rowOf (dg (v % (w * 2 ^ (i + 1).toNat))))), (1, .var (.arrI .u64 20 fun _ => rowOf (dg w))), (2, .var (.arrI .u64 20 fun _ => List.replicate 20 0)), (3, .var (.arrI .u64 20 fun _ => List.replicate 20 0)), (4, .var (.arrI .u64 20 fun _ => rowOf (dg (v / (w * 2 ^ (i + 1).toNat) * 2 ^ (i + 1).toNat)))), (5, .var (.arrI .u64 20 fun _ => rowOf (dg (w * 2 ^ k))))]
theorem rfby_ok (v w : Nat) (hv : v < 65536 ^ 8) (h0 : 0 < w) (hw : w < 65536 ^ 8) : PF 75 (.cons (.arrI .u64 20 fun _ => rowOf (dg v)) (.cons (.arrI .u64 20 fun _ => rowOf (dg w)) .nil)) (.tuple (.cons (.arrI .u64 20 fun _ => rowOf (dg (v / w))) (.cons (.arrI .u64 20 fun _ => rowOf (dg (v % w))) .nil))) := by
 refine tX qf75 Rt1_ok (.any) rfl ?_
 conv => arg 5; cbv
 have big : v < w * 2 ^ ((128 : Int) + 1).toNat := by
  rw [show ((128 : Int) + 1).toNat = 129 from rfl]
  refine Nat.lt_of_lt_of_le hv ?_
  refine Nat.le_trans ?_ (Nat.mul_le_mul_right (2 ^ 129) h0)
  decide
 refine run_inv (ι := Int) (fun i => (i + 1).toNat) (fun i => -1 <= i /\ i <= 128) rfbyA (rfbyS v w) 5 128 (fun i => i) (by rfl) (by rfl) ⟨by decide, by decide⟩ ?_ ⟨iR, iR, iR, iR, iR, iR, trivial⟩ ⟨⟨rfl, rfl, ?_⟩, iR, iR, iR, ⟨rfl, rfl, ?_⟩, trivial⟩
 ·intro i hi ih
  refine bX Rt1_ok (.any) _ rfl ?_
  conv => arg 5; cbv
  refine ⟨fun h => ?_, fun h => ?_⟩
  ·have h : 0 <= i := of_decide_eq_true h
   obtain ⟨m, rfl⟩ : ∃ m : Nat, i = m := ⟨i.toNat, by omega⟩
   refine run_inv (ι := Nat) (fun k => m - k) (fun k => k <= m) (bzA m) (bzS v w m) 6 0 (fun i => i) (by rfl) (by rfl) (Nat.zero_le _) ?_ ⟨iR, iR, iR, iR, iR, iR, iR, iR, trivial⟩ ⟨iR, iR, iR, iR, iR, ⟨rfl, rfl, by show _ = rowOf (dg (w * 2 ^ 0)); rw [Nat.pow_zero, Nat.mul_one]⟩, trivial⟩
   intro k hk ih2
   refine bX Rt1_ok (.any) _ rfl ?_
   conv => arg 5; cbv
   have n1 : ((m : Int) + 1).toNat = m + 1 := by omega
   have n2 : ((m : Int) - 1 + 1).toNat = m := by omega
   have hw1 : IntKind.i64.wrap ((m : Int) - 1) = (m : Int) - 1 := IntWalk.i64_in _ ⟨by omega, by omega⟩
   refine ⟨fun g => ?_, fun g => ?_⟩
   ·have g : (k : Int) < (m : Int) := of_decide_eq_true g
    have hwk : IntKind.i64.wrap ((k : Int) + 1) = ((k + 1 : Nat) : Int) := by rw [IntWalk.i64_in _ ⟨by omega, by omega⟩]; omega
    refine ⟨⟨isRow_of _, isRow_of _, trivial⟩, ih2 (k + 1) (fun i => i) (by omega) (by omega) (by rfl) ⟨⟨rfl, hwk⟩, iR, iR, iR, iR, iR, iR, iR, trivial⟩ ⟨iR, iR, iR, iR, iR, ⟨rfl, rfl, ?_⟩, trivial⟩⟩
    show rowOf (dg (nv (rowOf (dg (w * 2 ^ k))) + nv (rowOf (dg (w * 2 ^ k))))) = rowOf (dg (w * 2 ^ (k + 1)))
    rw [row_add, <- Nat.mul_two, Nat.mul_assoc, <- Nat.pow_succ]
   ·have g : ¬ (k : Int) < (m : Int) := of_decide_eq_false g
    have e : k = m := by omega
    have hm : m <= 128 := by omega
    have bD : v % (w * 2 ^ (m + 1)) < D20 := Nat.lt_of_le_of_lt (Nat.mod_le _ _) (Nat.lt_of_lt_of_le hv (Nat.pow_le_pow_right (by decide) (by decide)))
    have bP : w * 2 ^ m < D20 := by
     refine Nat.lt_of_lt_of_le (Nat.mul_lt_mul_of_lt_of_le hw (Nat.pow_le_pow_right (n := 2) (by decide) hm) (by decide)) ?_
     show 65536 ^ 8 * 2 ^ 128 <= 65536 ^ 20
     decide +kernel
    have eD : nv (rowOf (dg (v % (w * 2 ^ ((m : Int) + 1).toNat)))) = v % (w * 2 ^ (m + 1)) := by rw [n1]; exact nv_of bD
    have eP : nv (rowOf (dg (w * 2 ^ k))) = w * 2 ^ m := by rw [e]; exact nv_of bP
    obtain ⟨q1, q2⟩ := quo_step (v := v) (w := w) (i := m) h0
    refine ⟨⟨isRow_of _, isRow_of _, trivial⟩, fun c => ?_, fun c => ?_⟩
    ·have c : (!decide (nv (rowOf (dg (v % (w * 2 ^ ((m : Int) + 1).toNat)))) < nv (rowOf (dg (w * 2 ^ k))))) = true := c
     rw [eD, eP] at c
     have c : w * 2 ^ m <= v % (w * 2 ^ (m + 1)) := by
      have c : ¬ v % (w * 2 ^ (m + 1)) < w * 2 ^ m := by simpa using c
      omega
     obtain ⟨q3, q4⟩ := q1 c
     refine ⟨⟨isRow_of _, isRow_of _, ?_, ⟨Int.natCast_nonneg m, ?_⟩, isRow_of _, isRow_of _, (by show drawOK _ _ = true; decide +kernel), trivial⟩, ?_⟩
     ·show nv (rowOf (dg (w * 2 ^ k))) <= nv (rowOf (dg (v % (w * 2 ^ ((m : Int) + 1).toNat))))
      rw [eD, eP]; exact c
     ·show (m : Int) <= 300; omega
     refine ih ((m : Int) - 1) (fun i => i) ⟨by omega, by omega⟩ (by show ((m : Int) - 1 + 1).toNat < ((m : Int) + 1).toNat; omega) (by rfl) ⟨⟨rfl, hw1⟩, iR, iR, iR, iR, iR, trivial⟩ ⟨⟨rfl, rfl, ?_⟩, iR, iR, iR, ⟨rfl, rfl, ?_⟩, trivial⟩
     ·show rowOf (dg (nv (rowOf (dg (v % (w * 2 ^ ((m : Int) + 1).toNat)))) - nv (rowOf (dg (w * 2 ^ k))))) = rowOf (dg (v % (w * 2 ^ ((m : Int) - 1 + 1).toNat)))
      rw [eD, eP, q3, n2]
     ·show rowOf (dg (nv (rowOf (dg (v / (w * 2 ^ ((m : Int) + 1).toNat) * 2 ^ ((m : Int) + 1).toNat))) + nv (rowOf (dg (2 ^ ((m : Int)).toNat))))) = rowOf (dg (v / (w * 2 ^ ((m : Int) - 1 + 1).toNat) * 2 ^ ((m : Int) - 1 + 1).toNat))
      rw [row_add, n1, n2, Int.toNat_natCast, q4]
    ·have c : (!decide (nv (rowOf (dg (v % (w * 2 ^ ((m : Int) + 1).toNat)))) < nv (rowOf (dg (w * 2 ^ k))))) = false := c
     rw [eD, eP] at c
     have c : ¬ w * 2 ^ m <= v % (w * 2 ^ (m + 1)) := by
      have c : v % (w * 2 ^ (m + 1)) < w * 2 ^ m := by simpa using c
      omega
     obtain ⟨q3, q4⟩ := q2 c
     refine ih ((m : Int) - 1) (fun i => i) ⟨by omega, by omega⟩ (by show ((m : Int) - 1 + 1).toNat < ((m : Int) + 1).toNat; omega) (by rfl) ⟨⟨rfl, hw1⟩, iR, iR, iR, iR, iR, trivial⟩ ⟨⟨rfl, rfl, ?_⟩, iR, iR, iR, ⟨rfl, rfl, ?_⟩, trivial⟩
     ·show rowOf (dg (v % (w * 2 ^ ((m : Int) + 1).toNat))) = rowOf (dg (v % (w * 2 ^ ((m : Int) - 1 + 1).toNat)))
      rw [n1, n2, q3]
     ·show rowOf (dg (v / (w * 2 ^ ((m : Int) + 1).toNat) * 2 ^ ((m : Int) + 1).toNat)) = rowOf (dg (v / (w * 2 ^ ((m : Int) - 1 + 1).toNat) * 2 ^ ((m : Int) - 1 + 1).toNat))
      rw [n1, n2, q4]
  ·have h : ¬ 0 <= i := of_decide_eq_false h
   obtain rfl : i = -1 := by omega
   have n0 : ((-1 : Int) + 1).toNat = 0 := rfl
   refine ⟨⟨(by show drawOK _ _ = true; decide +kernel), trivial⟩, rfl, ⟨rfl, rfl, ?_⟩, ⟨rfl, rfl, ?_⟩, rfl⟩
   ·show rowOf (dg (v / (w * 2 ^ ((-1 : Int) + 1).toNat) * 2 ^ ((-1 : Int) + 1).toNat)) = _
    rw [n0, Nat.pow_zero, Nat.mul_one, Nat.mul_one]
   ·show rowOf (dg (v % (w * 2 ^ ((-1 : Int) + 1).toNat))) = _
    rw [n0, Nat.pow_zero, Nat.mul_one]
 ·show rowOf (dg v) = _
  rw [Nat.mod_eq_of_lt big]
 ·show List.replicate 20 0 = _
  rw [Nat.div_eq_of_lt big, Nat.zero_mul, <- rowOf_zero]
  exact rowOf_ext fun k _ => (dg_zero k).symm
noncomputable def Rt2 : Table := addS 75 (.cons (.arrI .u64 20) (.cons (.arrI .u64 20) .nil)) (fun l m => (.tuple (.cons (.arrI .u64 20 fun _ => rowOf (dg (nv (l ()) / nv (m ())))) (.cons (.arrI .u64 20 fun _ => rowOf (dg (nv (l ()) % nv (m ())))) .nil)), [fun _ => isRow (l ()), fun _ => isRow (m ()), fun _ => nv (l ()) < 65536 ^ 8, fun _ => 0 < nv (m ()) /\ nv (m ()) < 65536 ^ 8])) Rt1
theorem Rt2_ok : TableOK Tryz.prog G0 Rt2 := addS_ok qf75.callable (fun l _ m _ h => by
 have e1 : l () = rowOf (dg (nv (l ()))) := h.1
 have e2 : m () = rowOf (dg (nv (m ()))) := h.2.1
 have := rfby_ok (nv (l ())) (nv (m ())) h.2.2.1 h.2.2.2.1.1 h.2.2.2.1.2
 rw [<- e1, <- e2] at this
 exact this) Rt1_ok
theorem rfmost_ok : PF 128 .nil (.arrI .u64 20 fun _ => rowOf (dg 1152921504606846976000000000)) := by
 refine tX qf128 Rt2_ok (.any) rfl ?_
 conv => arg 5; cbv
 refine ⟨⟨⟨by decide, by decide⟩, isRow_of _, ?_, trivial⟩, rfl, rfl, rfl, ?_⟩
 ·show ((List.replicate 20 (0 : Int)).set 0 51712).set 1 15258 = rowOf (dg (nv (((List.replicate 20 (0 : Int)).set 0 51712).set 1 15258)))
  decide +kernel
 ·show rowOf (dg (nv (rowOf (dg (2 ^ Int.toNat 60))) % 65536 ^ 8 * (nv (((List.replicate 20 (0 : Int)).set 0 51712).set 1 15258) % 65536 ^ 8))) = rowOf (dg 1152921504606846976000000000)
  decide +kernel
noncomputable def Rt3 : Table := addS 128 .nil (.arrI .u64 20 fun _ => rowOf (dg 1152921504606846976000000000), []) Rt2
theorem Rt3_ok : TableOK Tryz.prog G0 Rt3 := addS_ok qf128.callable (fun _ => rfmost_ok) Rt2_ok
theorem rffits_ok (h l : Int) (hh : 0 <= h /\ h < 2 ^ 64) (hl : 0 <= l /\ l < 2 ^ 64) : PF 96 (.cons (.agg (.cons (.int .u64 fun _ => h) (.cons (.int .u64 fun _ => l) .nil))) .nil) (.bool fun _ => decide (h.toNat * 2 ^ 64 + l.toNat <= 1152921504606846976000000000)) := by
 refine tX qf96 Rt3_ok (.any) rfl ?_
 conv => arg 5; cbv
 refine ⟨⟨⟨hh, hl⟩, isRow_of _, isRow_of _, (by show drawOK _ _ = true; decide +kernel), trivial⟩, rfl, ?_⟩
 show (!decide (nv (rowOf (dg 1152921504606846976000000000)) < nv (rowOf (dg (h.toNat * 2 ^ 64 + l.toNat))))) = _
 have b : h.toNat * 2 ^ 64 + l.toNat < D20 := by
  have : h.toNat * 2 ^ 64 + l.toNat < 2 ^ 128 := by omega
  exact Nat.lt_trans this (by decide +kernel)
 rw [nv_of (show (1152921504606846976000000000 : Nat) < D20 by decide +kernel), nv_of b, <- decide_not]
 exact decide_eq_decide.2 (by omega)
noncomputable def Rt4 : Table := addS 96 (.cons shWd .nil) (fun h l => (.bool fun _ => decide ((h ()).toNat * 2 ^ 64 + (l ()).toNat <= 1152921504606846976000000000), [fun _ => (0 <= h () /\ h () < 2 ^ 64) /\ 0 <= l () /\ l () < 2 ^ 64])) Rt3
theorem Rt4_ok : TableOK Tryz.prog G0 Rt4 := addS_ok qf96.callable (fun h l c => rffits_ok (h ()) (l ()) c.1.1 c.1.2) Rt3_ok
theorem dparts_ok (n e : Nat) (he : 0 < e) (he2 : e < 18446744073709551616) (hn : n <= 1152921504606846976) (hm : n * e <= 1152921504606846976000000000) : PF 74 (.cons (.agg (.cons (.int .u64 fun _ => wHi (n * e)) (.cons (.int .u64 fun _ => wLo (n * e)) .nil))) (.cons (.int .u64 fun _ => (e : Int)) .nil)) (.tuple (.cons (.int .i64 fun _ => (n : Int)) (.cons (.bool fun _ => true) .nil))) := by
 obtain ⟨V, hV⟩ : ∃ V, V = n * e := ⟨_, rfl⟩
 rw [<- hV]
 refine tX qf74 Rt4_ok ((.no (.no (.no .any)))) rfl ?_
 conv => arg 5; cbv
 have bV : V < 18446744073709551616 * 18446744073709551616 := by omega
 have wV : (wHi V).toNat * 2 ^ 64 + (wLo V).toNat = V := by unfold wHi wLo; omega
 have rV : (0 <= wHi V /\ wHi V < 2 ^ 64) /\ 0 <= wLo V /\ wLo V < 2 ^ 64 := by unfold wHi wLo; omega
 have bV8 : V < 65536 ^ 8 := Nat.lt_of_lt_of_le bV (by decide +kernel)
 have b8 : (65536 : Nat) ^ 8 <= D20 := by decide +kernel
 have eV : nv (rowOf (dg ((wHi V).toNat * 2 ^ 64 + (wLo V).toNat))) = V := by rw [wV]; exact nv_of (Nat.lt_of_lt_of_le bV8 b8)
 have wE : Int.toNat 0 * 2 ^ 64 + ((e : Nat) : Int).toNat = e := by rw [Int.toNat_natCast, show Int.toNat 0 = 0 from rfl, Nat.zero_mul, Nat.zero_add]
 have be8 : e < 65536 ^ 8 := Nat.lt_of_lt_of_le he2 (by decide +kernel)
 have eE : nv (rowOf (dg (Int.toNat 0 * 2 ^ 64 + ((e : Nat) : Int).toNat))) = e := by rw [wE]; exact nv_of (Nat.lt_of_lt_of_le be8 b8)
 have eQ : V / e = n := by rw [hV]; exact Nat.mul_div_cancel _ he
 have eR : V % e = 0 := by rw [hV]; exact Nat.mul_mod_left _ _
 have bn8 : n < 65536 ^ 8 := Nat.lt_of_le_of_lt hn (by decide +kernel)
 have eN : nv (rowOf (dg (nv (rowOf (dg ((wHi V).toNat * 2 ^ 64 + (wLo V).toNat))) / nv (rowOf (dg (Int.toNat 0 * 2 ^ 64 + ((e : Nat) : Int).toNat)))))) = n := by
  rw [eV, eE, eQ]; exact nv_of (Nat.lt_of_lt_of_le bn8 b8)
 refine ⟨⟨rV, ⟨by decide, Int.natCast_nonneg e, ?_⟩, isRow_of _, isRow_of _, ?_, ?_, trivial⟩, ⟨?_, trivial⟩, ⟨rV, trivial⟩, ⟨?_, trivial⟩, ⟨by decide, isRow_of _, isRow_of _, (by show drawOK _ _ = true; decide +kernel), trivial⟩, ⟨?_, trivial⟩, ⟨isRow_of _, ?_, trivial⟩, rfl, ⟨rfl, ?_⟩, rfl, rfl⟩
 ·show (e : Int) < 2 ^ 64; omega
 ·show nv (rowOf (dg ((wHi V).toNat * 2 ^ 64 + (wLo V).toNat))) < 65536 ^ 8
  rw [eV]; exact bV8
 ·show 0 < nv (rowOf (dg (Int.toNat 0 * 2 ^ 64 + ((e : Nat) : Int).toNat))) /\ nv (rowOf (dg (Int.toNat 0 * 2 ^ 64 + ((e : Nat) : Int).toNat))) < 65536 ^ 8
  rw [eE]; exact ⟨he, be8⟩
 ·show (!decide (rowOf (dg (nv (rowOf (dg ((wHi V).toNat * 2 ^ 64 + (wLo V).toNat))) % nv (rowOf (dg (Int.toNat 0 * 2 ^ 64 + ((e : Nat) : Int).toNat))))) = List.replicate 20 0)) = false
  rw [eV, eE, eR]
  decide
 ·show (!decide ((wHi V).toNat * 2 ^ 64 + (wLo V).toNat <= 1152921504606846976000000000)) = false
  rw [wV, decide_eq_true (by omega)]; rfl
 ·show decide (nv (rowOf (dg (2 ^ Int.toNat 60))) < nv (rowOf (dg (nv (rowOf (dg ((wHi V).toNat * 2 ^ 64 + (wLo V).toNat))) / nv (rowOf (dg (Int.toNat 0 * 2 ^ 64 + ((e : Nat) : Int).toNat))))))) = false
  rw [eN, show nv (rowOf (dg (2 ^ Int.toNat 60))) = 1152921504606846976 by decide +kernel]
  exact decide_eq_false (by omega)
 ·show nv (rowOf (dg (nv (rowOf (dg ((wHi V).toNat * 2 ^ 64 + (wLo V).toNat))) / nv (rowOf (dg (Int.toNat 0 * 2 ^ 64 + ((e : Nat) : Int).toNat)))))) < 65536 ^ 8
  rw [eN]; exact bn8
 ·show IntKind.i64.wrap (wLo (nv (rowOf (dg (nv (rowOf (dg ((wHi V).toNat * 2 ^ 64 + (wLo V).toNat))) / nv (rowOf (dg (Int.toNat 0 * 2 ^ 64 + ((e : Nat) : Int).toNat)))))))) = (n : Int)
  rw [eN, wLo_small (by omega), IntWalk.i64_in _ ⟨by omega, by omega⟩]
noncomputable def Rt5 : Table := addS 74 (.cons shWd (.cons (.int .u64) .nil)) (fun h l e => (.tuple (.cons (.int .i64 fun _ => ((((h ()).toNat * 2 ^ 64 + (l ()).toNat) / (e ()).toNat : Nat) : Int)) (.cons (.bool fun _ => true) .nil)), [fun _ => (0 <= h () /\ h () < 2 ^ 64) /\ 0 <= l () /\ l () < 2 ^ 64, fun _ => 0 < e () /\ e () < 18446744073709551616, fun _ => ((h ()).toNat * 2 ^ 64 + (l ()).toNat) % (e ()).toNat = 0, fun _ => ((h ()).toNat * 2 ^ 64 + (l ()).toNat) / (e ()).toNat <= 1152921504606846976, fun _ => (h ()).toNat * 2 ^ 64 + (l ()).toNat <= 1152921504606846976000000000])) Rt4
theorem Rt5_ok : TableOK Tryz.prog G0 Rt5 := addS_ok qf74.callable (fun h l e c => by
 obtain ⟨⟨h1, h2⟩, h3, h4, h5, h6, _⟩ := c
 have h3 : 0 < e () /\ e () < 18446744073709551616 := h3
 have h4 : ((h ()).toNat * 2 ^ 64 + (l ()).toNat) % (e ()).toNat = 0 := h4
 have h6 : (h ()).toNat * 2 ^ 64 + (l ()).toNat <= 1152921504606846976000000000 := h6
 have h5 : ((h ()).toNat * 2 ^ 64 + (l ()).toNat) / (e ()).toNat <= 1152921504606846976 := h5
 obtain ⟨V, hV⟩ : ∃ V, V = (h ()).toNat * 2 ^ 64 + (l ()).toNat := ⟨_, rfl⟩
 rw [<- hV] at h4 h5 h6
 have e1 : V / (e ()).toNat * (e ()).toNat = V := Nat.div_mul_cancel (Nat.dvd_of_mod_eq_zero h4)
 have := dparts_ok (V / (e ()).toNat) (e ()).toNat (by omega) (by omega) h5 (by rw [e1]; exact h6)
 rw [e1, Int.toNat_of_nonneg (by omega), show wHi V = h () by unfold wHi; omega, show wLo V = l () by unfold wLo; omega, hV] at this
 exact this) Rt4_ok
def sufX (i : Int) : ByteArray := bif decide (i = 0) then (⟨#[110]⟩ : ByteArray) else bif decide (i = 1) then ⟨#[117]⟩ else bif decide (i = 2) then ⟨#[109]⟩ else bif decide (i = 3) then ⟨#[]⟩ else bif decide (i = 4) then ⟨#[107]⟩ else bif decide (i = 5) then ⟨#[77]⟩ else bif decide (i = 6) then ⟨#[71]⟩ else bif decide (i = 7) then ⟨#[84]⟩ else bif decide (i = 8) then ⟨#[80]⟩ else ⟨#[69]⟩
theorem sufX_eq : ∀ k : Nat, k < 10 -> sufX (k : Int) = toB (sufA k) /\ (sufX (k : Int)).size <= 1 := by decide
theorem toB_append (a b : List UInt8) : toB a ++ toB b = toB (a ++ b) := by
 rw [<- toB_data (toB a ++ toB b)]
 congr 1
def atA (x : Nat × Nat) : Env := [(4, .int .i64 fun _ => (x.1 : Int)), (3, .str fun _ => toB (Lib.decDigits x.2))]
theorem thou_fin {V k n : Nat} (v0 : ¬ V = 0) (hk : k <= 9) (h1 : (thou (9 - k) n).1 = (thou 9 V).1) (h2 : (thou (9 - k) n).2 + k = (thou 9 V).2) (h : thou (9 - k) n = (n, 0)) : toB (Lib.decDigits n) ++ sufX (k : Int) = toB (atext V) := by
 rw [h] at h1 h2
 have h1 : n = (thou 9 V).1 := h1
 have h2 : 0 + k = (thou 9 V).2 := h2
 rw [(sufX_eq k (by omega)).1, toB_append]
 unfold atext
 rw [if_neg v0, <- h1, <- h2, Nat.zero_add]
theorem thou_stop {f n : Nat} (h : f = 0 \/ n % 1000 ≠ 0) : thou f n = (n, 0) := by
 cases f with
 | zero => rfl
 | succ f =>
   unfold thou
   rw [if_neg (by omega)]
theorem dtext_ok (h l : Int) (hh : 0 <= h /\ h < 2 ^ 64) (hl : 0 <= l /\ l < 2 ^ 64) (V : Nat) (hV : h.toNat * 2 ^ 64 + l.toNat = V) (hm : V <= 1152921504606846976000000000) : PF 50 (.cons (.agg (.cons (.int .u64 fun _ => h) (.cons (.int .u64 fun _ => l) .nil))) .nil) (.str fun _ => toB (atext V)) := by
 by_cases v0 : V = 0
 ·
  refine tX qf50 Rt5_ok ((.yes .any)) rfl ?_
  conv => arg 5; cbv
  have e : toB (Lib.decDigits (h.toNat * 2 ^ 64 + l.toNat)) = ⟨#[48]⟩ := by rw [hV, v0]; decide +kernel
  refine ⟨⟨⟨hh, hl⟩, trivial⟩, ⟨decide_eq_true e, trivial⟩, rfl, ?_⟩
  show toB (Lib.decDigits (h.toNat * 2 ^ 64 + l.toNat)) = _
  rw [e, v0]; rfl
 ·
  refine tX qf50 Rt5_ok ((.no .any)) rfl ?_
  conv => arg 5; cbv
  refine ⟨⟨⟨hh, hl⟩, trivial⟩, ⟨?_, trivial⟩, ?_⟩
  ·refine decide_eq_false fun e => ?_
   have e : toB (Lib.decDigits (h.toNat * 2 ^ 64 + l.toNat)) = ⟨#[48]⟩ := e
   rw [hV] at e
   have e : Lib.decDigits V = [48] := congrArg (fun b => b.data.toList) e
   exact v0 ((decDigits_dig V).2.2.2 (by rw [e]; rfl))
  refine run_inv (ι := Nat × Nat) (fun x => 9 - x.1) (fun x => x.1 <= 9 /\ 0 < x.2 /\ x.2 <= V /\ (thou (9 - x.1) x.2).1 = (thou 9 V).1 /\ (thou (9 - x.1) x.2).2 + x.1 = (thou 9 V).2) atA (fun _ => []) 0 (0, V) (fun i => i) (by rfl) (by rfl) ⟨Nat.zero_le _, Nat.pos_of_ne_zero v0, Nat.le_refl _, rfl, rfl⟩ ?_ ⟨iR, congrArg (fun v => toB (Lib.decDigits v)) hV, trivial⟩ trivial
  rintro ⟨k, n⟩ hi ih
  dsimp only at hi
  obtain ⟨hk, h0, hn, h1, h2⟩ := hi
  refine bX Rt5_ok (.any) _ rfl ?_
  conv => arg 5; cbv
  have hsz : (toB (Lib.decDigits n)).size = (Lib.decDigits n).length := (size_toB (toB (Lib.decDigits n))).symm
  have hlen : (Lib.decDigits n).length <= 28 := dec_len (Nat.lt_of_le_of_lt (Nat.le_trans hn hm) (by decide +kernel)) (by decide)
  have hs1 := (sufX_eq k (by omega)).2
  have c1 : 0 <= (k : Int) /\ (k : Int) < ((10 : Nat) : Int) := by omega
  have c2 : (toB (Lib.decDigits n)).size + (sufX (k : Int)).size <= 9223372036854775807 := by omega
  have wr : IntKind.i64.wrap (((toB (Lib.decDigits n)).size : Int) - 3) = ((Lib.decDigits n).length : Int) - 3 := by rw [hsz, IntWalk.i64_in _ ⟨by omega, by omega⟩]
  have fin : (9 - k = 0 \/ n % 1000 ≠ 0) -> toB (Lib.decDigits n) ++ sufX (k : Int) = toB (atext V) := fun h => thou_fin v0 hk h1 h2 (thou_stop h)
  refine ⟨fun a => ⟨fun b => ?_, fun b => ⟨⟨c1, c2, trivial⟩, rfl, fin (.inr ?_)⟩⟩, fun a => ⟨⟨c1, c2, trivial⟩, rfl, fin (.inl ?_)⟩⟩
  ·have a : (k : Int) < 9 := of_decide_eq_true a
   have b : (3 : Int) < ((toB (Lib.decDigits n)).size : Int) := of_decide_eq_true b
   rw [hsz] at b
   have n3 : 1000 <= n := by
    have := dec_len3 (n := n)
    omega
   obtain ⟨d1, d2⟩ := dec_noughts n3
   have cw : 0 <= IntKind.i64.wrap (((toB (Lib.decDigits n)).size : Int) - 3) /\ IntKind.i64.wrap (((toB (Lib.decDigits n)).size : Int) - 3) <= ((toB (Lib.decDigits n)).size : Int) := by rw [wr, hsz]; omega
   have tn : (((Lib.decDigits n).length : Int) - 3).toNat = (Lib.decDigits n).length - 3 := by omega
   have ex : (toB (Lib.decDigits n)).extract (IntKind.i64.wrap (((toB (Lib.decDigits n)).size : Int) - 3)).toNat (((toB (Lib.decDigits n)).size : Int)).toNat = toB ((Lib.decDigits n).drop ((Lib.decDigits n).length - 3)) := by
    rw [wr, tn, Int.toNat_natCast, restB]; rfl
   refine ⟨⟨cw, trivial⟩, fun c => ⟨⟨cw, trivial⟩, ?_⟩, fun c => ⟨⟨c1, c2, trivial⟩, rfl, fin (.inr ?_)⟩⟩
   ·have c : (toB (Lib.decDigits n)).extract (IntKind.i64.wrap (((toB (Lib.decDigits n)).size : Int) - 3)).toNat (((toB (Lib.decDigits n)).size : Int)).toNat = ⟨#[48, 48, 48]⟩ := of_decide_eq_true c
    rw [ex] at c
    have c : (Lib.decDigits n).drop ((Lib.decDigits n).length - 3) = [48, 48, 48] := congrArg (fun b => b.data.toList) c
    have hmod := d1.1 c
    have hw : IntKind.i64.wrap ((k : Int) + 1) = ((k + 1 : Nat) : Int) := by rw [IntWalk.i64_in _ ⟨by omega, by omega⟩]; omega
    obtain ⟨f, hf⟩ : ∃ f, 9 - k = f + 1 := ⟨8 - k, by omega⟩
    rw [hf] at h1 h2
    unfold thou at h1 h2
    rw [if_pos hmod] at h1 h2
    have h1 : (thou f (n / 1000)).1 = (thou 9 V).1 := h1
    have h2 : (thou f (n / 1000)).2 + 1 + k = (thou 9 V).2 := h2
    have hf2 : 9 - (k + 1) = f := by omega
    refine ih (k + 1, n / 1000) (fun i => i) ⟨by show k + 1 <= 9; omega, by show 0 < n / 1000; omega, by show n / 1000 <= V; omega, by show (thou (9 - (k + 1)) (n / 1000)).1 = _; rw [hf2]; exact h1, by show (thou (9 - (k + 1)) (n / 1000)).2 + (k + 1) = _; rw [hf2]; omega⟩ (by show 9 - (k + 1) < 9 - k; omega) (by rfl) ⟨⟨rfl, hw⟩, ?_, trivial⟩ trivial
    show (toB (Lib.decDigits n)).extract 0 (IntKind.i64.wrap (((toB (Lib.decDigits n)).size : Int) - 3)).toNat = toB (Lib.decDigits (n / 1000))
    rw [wr, tn, extB, List.drop_zero]
    show toB ((Lib.decDigits n).take ((Lib.decDigits n).length - 3)) = _
    rw [d2]
   ·have c : ¬ (toB (Lib.decDigits n)).extract (IntKind.i64.wrap (((toB (Lib.decDigits n)).size : Int) - 3)).toNat (((toB (Lib.decDigits n)).size : Int)).toNat = ⟨#[48, 48, 48]⟩ := of_decide_eq_false c
    rw [ex] at c
    exact fun e => c (congrArg toB (d1.2 e))
  ·have b : ¬ (3 : Int) < ((toB (Lib.decDigits n)).size : Int) := of_decide_eq_false b
   rw [hsz] at b
   have := (dec_len3 (n := n)).1 (by omega)
   omega
  ·have a : ¬ (k : Int) < 9 := of_decide_eq_false a
   omega
noncomputable def Rt6 : Table := addS 50 (.cons shWd .nil) (fun h l => (.str fun _ => toB (atext ((h ()).toNat * 2 ^ 64 + (l ()).toNat)), [fun _ => (0 <= h () /\ h () < 2 ^ 64) /\ 0 <= l () /\ l () < 2 ^ 64, fun _ => (h ()).toNat * 2 ^ 64 + (l ()).toNat <= 1152921504606846976000000000])) Rt5
theorem Rt6_ok : TableOK Tryz.prog G0 Rt6 := addS_ok qf50.callable (fun h l c => dtext_ok (h ()) (l ()) c.1.1 c.1.2 _ rfl c.2.1) Rt5_ok
def suB (i : Int) : ByteArray := bif decide (i = 0) then (⟨#[]⟩ : ByteArray) else bif decide (i = 1) then ⟨#[75, 105]⟩ else bif decide (i = 2) then ⟨#[77, 105]⟩ else bif decide (i = 3) then ⟨#[71, 105]⟩ else bif decide (i = 4) then ⟨#[84, 105]⟩ else bif decide (i = 5) then ⟨#[80, 105]⟩ else ⟨#[69, 105]⟩
theorem suB_eq : ∀ k : Nat, k < 7 -> suB (k : Int) = toB (sufB k) /\ (suB (k : Int)).size <= 2 := by decide
def biA (x : Nat × Nat) : Env := [(7, .int .i64 fun _ => (x.1 : Int)), (3, .int .i64 fun _ => (x.2 : Int))]
theorem wNum (V : Nat) : (wHi V).toNat * 2 ^ 64 + (wLo V).toNat = V := by unfold wHi wLo; omega
theorem wRng {V : Nat} (h : V < 18446744073709551616 * 18446744073709551616) : (0 <= wHi V /\ wHi V < 2 ^ 64) /\ 0 <= wLo V /\ wLo V < 2 ^ 64 := by unfold wHi wLo; omega
theorem dbin_ok (n : Nat) (hn : n <= 1152921504606846976) (V : Nat) (hV : V = n * 1000000000) : PF 52 (.cons (.agg (.cons (.int .u64 fun _ => wHi V) (.cons (.int .u64 fun _ => wLo V) .nil))) .nil) (.str fun _ => toB (btext V)) := by
 refine tX qf52 Rt6_ok ((.no .any)) rfl ?_
 conv => arg 5; cbv
 have bV : V < 18446744073709551616 * 18446744073709551616 := by omega
 have wV : (wHi V).toNat * 2 ^ 64 + (wLo V).toNat = V := wNum V
 have rV : (0 <= wHi V /\ wHi V < 2 ^ 64) /\ 0 <= wLo V /\ wLo V < 2 ^ 64 := wRng bV
 have bV8 : V < 65536 ^ 8 := Nat.lt_of_lt_of_le bV (by decide +kernel)
 have b8 : (65536 : Nat) ^ 8 <= D20 := by decide +kernel
 have eV : nv (rowOf (dg ((wHi V).toNat * 2 ^ 64 + (wLo V).toNat))) = V := by rw [wV]; exact nv_of (Nat.lt_of_lt_of_le bV8 b8)
 have eB : nv (rowOf (dg (Int.toNat 0 * 2 ^ 64 + Int.toNat 1000000000))) = 1000000000 := by decide +kernel
 have tB : Int.toNat 1000000000 = 1000000000 := rfl
 have eQ : ((wHi V).toNat * 2 ^ 64 + (wLo V).toNat) / Int.toNat 1000000000 = n := by rw [wV, tB, hV]; exact Nat.mul_div_cancel _ (by decide)
 have eR : V % 1000000000 = 0 := by rw [hV]; exact Nat.mul_mod_left _ _
 have eD : V / 1000000000 = n := by rw [hV]; exact Nat.mul_div_cancel _ (by decide)
 have hm : (wHi V).toNat * 2 ^ 64 + (wLo V).toNat <= 1152921504606846976000000000 := by rw [wV]; omega
 have ta : ∀ h : n = 0 \/ n % 1024 ≠ 0, toB (atext ((wHi V).toNat * 2 ^ 64 + (wLo V).toNat)) = toB (btext V) := fun h => by
  rw [wV]
  unfold btext
  rw [eD, if_pos (.inr h)]
 refine ⟨⟨rV, ⟨by decide, by decide⟩, ?_, ?_, hm, rV, ⟨by decide, by decide⟩, isRow_of _, isRow_of _, ?_, ?_, trivial⟩, ⟨?_, trivial⟩, fun q => ⟨⟨rV, hm, trivial⟩, rfl, ta (.inl ?_)⟩, fun q => ⟨⟨by decide, trivial⟩, fun t => ⟨⟨rV, hm, trivial⟩, rfl, ta (.inr ?_)⟩, fun t => ?_⟩⟩
 ·show ((wHi V).toNat * 2 ^ 64 + (wLo V).toNat) % Int.toNat 1000000000 = 0
  rw [wV]; exact eR
 ·show ((wHi V).toNat * 2 ^ 64 + (wLo V).toNat) / Int.toNat 1000000000 <= 1152921504606846976
  rw [eQ]; exact hn
 ·show nv (rowOf (dg ((wHi V).toNat * 2 ^ 64 + (wLo V).toNat))) < 65536 ^ 8
  rw [eV]; exact bV8
 ·show 0 < nv (rowOf (dg (Int.toNat 0 * 2 ^ 64 + Int.toNat 1000000000))) /\ nv (rowOf (dg (Int.toNat 0 * 2 ^ 64 + Int.toNat 1000000000))) < 65536 ^ 8
  rw [eB]; decide +kernel
 ·show (!decide (rowOf (dg (nv (rowOf (dg ((wHi V).toNat * 2 ^ 64 + (wLo V).toNat))) % nv (rowOf (dg (Int.toNat 0 * 2 ^ 64 + Int.toNat 1000000000))))) = List.replicate 20 0)) = false
  rw [eV, eB, eR]
  decide
 ·have q : (((((wHi V).toNat * 2 ^ 64 + (wLo V).toNat) / Int.toNat 1000000000 : Nat) : Int) == 0) = true := q
  rw [eQ] at q
  have q : (n : Int) = 0 := by simpa using q
  omega
 ·have t : (((((wHi V).toNat * 2 ^ 64 + (wLo V).toNat) / Int.toNat 1000000000 : Nat) : Int).tmod 1024 != 0) = true := t
  rw [eQ] at t
  have t : (((n % 1024 : Nat) : Int) != 0) = true := t
  have t : ((n % 1024 : Nat) : Int) ≠ 0 := by simpa using t
  omega
 have q : n ≠ 0 := by
  have q : (((((wHi V).toNat * 2 ^ 64 + (wLo V).toNat) / Int.toNat 1000000000 : Nat) : Int) == 0) = false := q
  rw [eQ] at q
  have q : ¬ (n : Int) = 0 := by simpa using q
  omega
 have t : n % 1024 = 0 := by
  have t : (((((wHi V).toNat * 2 ^ 64 + (wLo V).toNat) / Int.toNat 1000000000 : Nat) : Int).tmod 1024 != 0) = false := t
  rw [eQ] at t
  have t : (((n % 1024 : Nat) : Int) != 0) = false := t
  have t : ((n % 1024 : Nat) : Int) = 0 := by simpa using t
  omega
 have hb : btext V = Lib.decDigits (kibi 6 n).1 ++ sufB (kibi 6 n).2 := by
  unfold btext
  rw [eD, if_neg (by omega)]
 refine run_inv (ι := Nat × Nat) (fun x => 6 - x.1) (fun x => x.1 <= 6 /\ 0 < x.2 /\ x.2 <= n /\ (kibi (6 - x.1) x.2).1 = (kibi 6 n).1 /\ (kibi (6 - x.1) x.2).2 + x.1 = (kibi 6 n).2) biA (fun _ => []) 0 (0, n) (fun i => i) (by rfl) (by rfl) ⟨Nat.zero_le _, Nat.pos_of_ne_zero q, Nat.le_refl _, rfl, rfl⟩ ?_ ⟨iR, ⟨rfl, congrArg (fun x : Nat => (x : Int)) eQ⟩, trivial⟩ trivial
 rintro ⟨k, m⟩ hi ih
 dsimp only at hi
 obtain ⟨hk, h0, hmn, h1, h2⟩ := hi
 refine bX Rt6_ok (.any) _ rfl ?_
 conv => arg 5; cbv
 have wm : IntKind.u64.wrap ((m : Nat) : Int) = (m : Int) := uw (by omega)
 have z : ∀ x : Nat, Int.toNat 0 * 2 ^ 64 + x = x := fun x => by rw [show Int.toNat 0 = 0 from rfl, Nat.zero_mul, Nat.zero_add]
 have hl : (Lib.decDigits m).length <= 28 := dec_len (Nat.lt_of_le_of_lt (Nat.le_trans hmn hn) (by decide +kernel)) (by decide)
 have eT : toB (Lib.decDigits (Int.toNat 0 * 2 ^ 64 + (IntKind.u64.wrap ((m : Nat) : Int)).toNat)) = toB (Lib.decDigits m) := by rw [wm, z, Int.toNat_natCast]
 have hs1 := suB_eq k (by omega)
 have c0 : 0 <= IntKind.u64.wrap ((m : Nat) : Int) /\ IntKind.u64.wrap ((m : Nat) : Int) < 2 ^ 64 := by rw [wm]; omega
 have c1 : 0 <= (k : Int) /\ (k : Int) < ((7 : Nat) : Int) := by omega
 have c2 : (toB (Lib.decDigits (Int.toNat 0 * 2 ^ 64 + (IntKind.u64.wrap ((m : Nat) : Int)).toNat))).size + (suB (k : Int)).size <= 9223372036854775807 := by
  rw [eT, <- size_toB (toB _)]
  have := hs1.2
  show (Lib.decDigits m).length + _ <= _
  omega
 have fin : (6 - k = 0 \/ m % 1024 ≠ 0) -> toB (Lib.decDigits (Int.toNat 0 * 2 ^ 64 + (IntKind.u64.wrap ((m : Nat) : Int)).toNat)) ++ suB (k : Int) = toB (btext V) := fun h => by
  have hk2 : kibi (6 - k) m = (m, 0) := by
   cases hf : 6 - k with
   | zero => rfl
   | succ f =>
     unfold kibi
     rw [if_neg (by omega)]
  rw [hk2] at h1 h2
  have h1 : m = (kibi 6 n).1 := h1
  have h2 : 0 + k = (kibi 6 n).2 := h2
  rw [eT, hs1.1, toB_append, hb, <- h1, <- h2, Nat.zero_add]
 refine ⟨fun a => ⟨⟨by decide, trivial⟩, fun b => ⟨⟨by decide, trivial⟩, ?_⟩, fun b => ⟨⟨⟨⟨by decide, by decide⟩, c0⟩, c1, c2, (by show drawOK _ _ = true; decide +kernel), trivial⟩, rfl, fin (.inr ?_)⟩⟩, fun a => ⟨⟨⟨⟨by decide, by decide⟩, c0⟩, c1, c2, (by show drawOK _ _ = true; decide +kernel), trivial⟩, rfl, fin (.inl ?_)⟩⟩
 ·have a : (k : Int) < 6 := of_decide_eq_true a
  have b : (((m % 1024 : Nat) : Int) == 0) = true := b
  have b : ((m % 1024 : Nat) : Int) = 0 := by simpa using b
  have hw : IntKind.i64.wrap ((k : Int) + 1) = ((k + 1 : Nat) : Int) := by rw [IntWalk.i64_in _ ⟨by omega, by omega⟩]; omega
  have hd : IntKind.i64.wrap (((m : Nat) : Int).tdiv 1024) = ((m / 1024 : Nat) : Int) := by
   show IntKind.i64.wrap ((m / 1024 : Nat) : Int) = _
   rw [IntWalk.i64_in _ ⟨by omega, by omega⟩]
  obtain ⟨f, hf⟩ : ∃ f, 6 - k = f + 1 := ⟨5 - k, by omega⟩
  rw [hf] at h1 h2
  unfold kibi at h1 h2
  rw [if_pos (by omega)] at h1 h2
  have h1 : (kibi f (m / 1024)).1 = (kibi 6 n).1 := h1
  have h2 : (kibi f (m / 1024)).2 + 1 + k = (kibi 6 n).2 := h2
  have hf2 : 6 - (k + 1) = f := by omega
  exact ih (k + 1, m / 1024) (fun i => i) ⟨by show k + 1 <= 6; omega, by show 0 < m / 1024; omega, by show m / 1024 <= n; omega, by show (kibi (6 - (k + 1)) (m / 1024)).1 = _; rw [hf2]; exact h1, by show (kibi (6 - (k + 1)) (m / 1024)).2 + (k + 1) = _; rw [hf2]; omega⟩ (by show 6 - (k + 1) < 6 - k; omega) (by rfl) ⟨⟨rfl, hw⟩, ⟨rfl, hd⟩, trivial⟩ trivial
 ·have b : (((m % 1024 : Nat) : Int) == 0) = false := b
  have b : ¬ ((m % 1024 : Nat) : Int) = 0 := by simpa using b
  omega
 ·have a : ¬ (k : Int) < 6 := of_decide_eq_false a
  omega
theorem dnum_ok (n b V : Nat) (hn : n < 18446744073709551616) (hb : b < 18446744073709551616) (hV : V = n * b) (h9 : (n : Int) <= 9223372036854775807) : PF 51 (.cons (.int .i64 fun _ => (n : Int)) (.cons (.int .u64 fun _ => (b : Int)) .nil)) (.agg (.cons (.int .u64 fun _ => wHi V) (.cons (.int .u64 fun _ => wLo V) .nil))) := by
 refine tX qf51 Rt6_ok (.any) rfl ?_
 conv => arg 5; cbv
 have b8 : (65536 : Nat) ^ 8 <= D20 := by decide +kernel
 have w8 : (18446744073709551616 : Nat) <= 65536 ^ 8 := by decide +kernel
 have wn : IntKind.u64.wrap ((n : Nat) : Int) = (n : Int) := uw hn
 have z : ∀ x : Nat, Int.toNat 0 * 2 ^ 64 + x = x := fun x => by rw [show Int.toNat 0 = 0 from rfl, Nat.zero_mul, Nat.zero_add]
 have eA : nv (rowOf (dg (Int.toNat 0 * 2 ^ 64 + (IntKind.u64.wrap ((n : Nat) : Int)).toNat))) = n := by
  rw [wn, z, Int.toNat_natCast]; exact nv_of (Nat.lt_of_lt_of_le hn (Nat.le_trans w8 b8))
 have eB : nv (rowOf (dg (Int.toNat 0 * 2 ^ 64 + ((b : Nat) : Int).toNat))) = b := by
  rw [z, Int.toNat_natCast]; exact nv_of (Nat.lt_of_lt_of_le hb (Nat.le_trans w8 b8))
 have hp : n * b < 65536 ^ 8 := Nat.lt_of_lt_of_le (Nat.mul_lt_mul'' hn hb) (by decide +kernel)
 have eP : nv (rowOf (dg (nv (rowOf (dg (Int.toNat 0 * 2 ^ 64 + (IntKind.u64.wrap ((n : Nat) : Int)).toNat))) % 65536 ^ 8 * (nv (rowOf (dg (Int.toNat 0 * 2 ^ 64 + ((b : Nat) : Int).toNat))) % 65536 ^ 8)))) = V := by
  rw [eA, eB, Nat.mod_eq_of_lt (Nat.lt_of_lt_of_le hn w8), Nat.mod_eq_of_lt (Nat.lt_of_lt_of_le hb w8), hV]
  exact nv_of (Nat.lt_of_lt_of_le hp b8)
 refine ⟨⟨⟨⟨by decide, by decide⟩, ?_⟩, ⟨⟨by decide, by decide⟩, Int.natCast_nonneg b, ?_⟩, isRow_of _, isRow_of _, isRow_of _, ?_, trivial⟩, rfl, ⟨rfl, congrArg wHi eP⟩, ⟨rfl, congrArg wLo eP⟩, rfl⟩
 ·show 0 <= IntKind.u64.wrap ((n : Nat) : Int) /\ IntKind.u64.wrap ((n : Nat) : Int) < 2 ^ 64
  rw [wn]; omega
 ·show (b : Int) < 2 ^ 64; omega
 ·refine Nat.lt_of_le_of_lt (Nat.le_of_eq eP) ?_
  rw [hV]; exact hp
theorem signed_ok (n : Int) (h0 : -9223372036854775808 <= n) (h1 : n <= 9223372036854775807) : PF 25 (.cons (.int .i64 fun _ => n) .nil) (.str fun _ => toB (Lib.itoa n)) := by
 refine tX qf25 Rt6_ok (.any) rfl ?_
 conv => arg 5; cbv
 have b8 : (65536 : Nat) ^ 8 <= D20 := by decide +kernel
 have z : ∀ x : Nat, Int.toNat 0 * 2 ^ 64 + x = x := fun x => by rw [show Int.toNat 0 = 0 from rfl, Nat.zero_mul, Nat.zero_add]
 refine ⟨fun h => ?_, fun h => ?_⟩
 ·have h : n < 0 := of_decide_eq_true h
  have wx : IntKind.u64.wrap (IntKind.i64.wrap (0 - IntKind.i64.wrap (n + 1))) = -n - 1 := by
   rw [IntWalk.i64_in (n + 1) ⟨by omega, by omega⟩, IntWalk.i64_in _ ⟨by omega, by omega⟩, IntWalk.u64_in _ ⟨by omega, by omega⟩]; omega
  have b0 : n.natAbs < 65536 ^ 8 := Nat.lt_of_lt_of_le (show n.natAbs < 18446744073709551616 by omega) (by decide +kernel)
  have e1 : nv ((List.replicate 20 (0 : Int)).set 0 1) = 1 := by decide +kernel
  have eS : nv (rowOf (dg (nv (rowOf (dg (Int.toNat 0 * 2 ^ 64 + (IntKind.u64.wrap (IntKind.i64.wrap (0 - IntKind.i64.wrap (n + 1)))).toNat))) + nv ((List.replicate 20 (0 : Int)).set 0 1)))) = n.natAbs := by
   rw [e1, wx, z, nv_of (Nat.lt_of_lt_of_le (show (-n - 1).toNat < 65536 ^ 8 by omega) b8), show (-n - 1).toNat + 1 = n.natAbs by omega]
   exact nv_of (Nat.lt_of_lt_of_le b0 b8)
  have eW : (wHi n.natAbs).toNat * 2 ^ 64 + (wLo n.natAbs).toNat = n.natAbs := wNum _
  have eT : toB (Lib.decDigits ((wHi (nv (rowOf (dg (nv (rowOf (dg (Int.toNat 0 * 2 ^ 64 + (IntKind.u64.wrap (IntKind.i64.wrap (0 - IntKind.i64.wrap (n + 1)))).toNat))) + nv ((List.replicate 20 (0 : Int)).set 0 1)))))).toNat * 2 ^ 64 + (wLo (nv (rowOf (dg (nv (rowOf (dg (Int.toNat 0 * 2 ^ 64 + (IntKind.u64.wrap (IntKind.i64.wrap (0 - IntKind.i64.wrap (n + 1)))).toNat))) + nv ((List.replicate 20 (0 : Int)).set 0 1)))))).toNat)) = toB (Lib.decDigits n.natAbs) := by
   rw [eS, eW]
  have hl : (Lib.decDigits n.natAbs).length <= 28 := dec_len (Nat.lt_of_lt_of_le (show n.natAbs < 18446744073709551616 by omega) (by decide +kernel)) (by decide)
  refine ⟨⟨⟨⟨by decide, by decide⟩, ?_⟩, isRow_of _, ?_, isRow_of _, ?_, ?_, ?_, trivial⟩, rfl, ?_⟩
  ·show 0 <= IntKind.u64.wrap (IntKind.i64.wrap (0 - IntKind.i64.wrap (n + 1))) /\ IntKind.u64.wrap (IntKind.i64.wrap (0 - IntKind.i64.wrap (n + 1))) < 2 ^ 64
   rw [wx]; omega
  ·show (List.replicate 20 (0 : Int)).set 0 1 = rowOf (dg (nv ((List.replicate 20 (0 : Int)).set 0 1)))
   decide +kernel
  ·exact Nat.lt_of_le_of_lt (Nat.le_of_eq eS) b0
  ·refine Eq.mpr (congrArg (fun x : Nat => (0 <= wHi x /\ wHi x < 2 ^ 64) /\ 0 <= wLo x /\ wLo x < 2 ^ 64) eS) ?_
   exact wRng (Nat.lt_trans (show n.natAbs < 18446744073709551616 by omega) (by decide +kernel))
  ·refine Nat.le_trans (Nat.le_of_eq (congrArg (fun t : ByteArray => (⟨#[45]⟩ : ByteArray).size + t.size) eT)) ?_
   rw [<- size_toB (toB _)]
   show 1 + (Lib.decDigits n.natAbs).length <= _
   omega
  ·refine (congrArg (fun t : ByteArray => (⟨#[45]⟩ : ByteArray) ++ t) eT).trans ?_
   show toB [45] ++ toB _ = _
   rw [toB_append]
   unfold Lib.itoa
   rw [if_pos h]; rfl
 ·have h : ¬ n < 0 := of_decide_eq_false h
  have wx : IntKind.u64.wrap n = n := IntWalk.u64_in _ ⟨by omega, by omega⟩
  refine ⟨⟨⟨⟨by decide, by decide⟩, ?_⟩, trivial⟩, rfl, ?_⟩
  ·show 0 <= IntKind.u64.wrap n /\ IntKind.u64.wrap n < 2 ^ 64
   rw [wx]; omega
  ·show toB (Lib.decDigits (Int.toNat 0 * 2 ^ 64 + (IntKind.u64.wrap n).toNat)) = _
   rw [wx, z]
   unfold Lib.itoa
   rw [if_neg h]
end Go.Proofs.YtpbjcabecalpaaaGreatDoor
