/- THE LOGIC OF ABSTRACT VALUES, a part of it: what the walks of this claim stand on. -/
import Derived.Test.YtdikfhjpnfffnaaDoorGb
import Derived.Lib.Join
import Derived.Lib.ItoaLen
import Derived.Carry
import Derived.OpenShut
import Derived.RowKit
import Derived.Deep.DeepHandedRow
import Derived.Lib.LaidTab
set_option maxRecDepth 2000
set_option linter.unusedVariables false
set_option linter.unusedSimpArgs false
/- HOW MANY BITS a word has: plain facts. -/
set_option linter.unusedVariables false
set_option linter.unusedSimpArgs false
namespace Go.Abs

/-- How many of the first ones. -/
def cnt (p : Nat → Bool) : Nat → Nat
  | 0 => 0
  | n + 1 => cnt p n + (if p n then 1 else 0)
theorem cnt_le (p : Nat → Bool) : ∀ n, cnt p n ≤ n
  | 0 => Nat.le_refl _
  | n + 1 => by have := cnt_le p n; simp only [cnt]; split <;> omega
theorem cnt_ext {p q : Nat → Bool} : ∀ {n : Nat}, (∀ i, i < n → p i = q i) → cnt p n = cnt q n
  | 0, _ => rfl
  | n + 1, h => by simp only [cnt, cnt_ext fun i hi => h i (Nat.lt_succ_of_lt hi), h n (Nat.lt_succ_self n)]
theorem cnt_add (p : Nat → Bool) (a : Nat) : ∀ b, cnt p (a + b) = cnt p a + cnt (fun i => p (a + i)) b
  | 0 => rfl
  | b + 1 => by
    rw [← Nat.add_assoc]
    simp only [cnt, cnt_add p a b]
    omega

theorem land_split {x y m n : Nat} (hx : x < 256) (hm : m < 256) : (x + 256 * y) &&& (m + 256 * n) = (x &&& m) + 256 * (y &&& n) := by
  have h1 := Nat.and_mod_two_pow (a := x + 256 * y) (b := m + 256 * n) (n := 8)
  have h2 := Nat.and_div_two_pow (a := x + 256 * y) (b := m + 256 * n) (n := 8)
  have e : (2 : Nat) ^ 8 = 256 := rfl
  rw [e] at h1 h2
  rw [show (x + 256 * y) % 256 = x by omega, show (m + 256 * n) % 256 = m by omega] at h1
  rw [show (x + 256 * y) / 256 = y by omega, show (m + 256 * n) / 256 = n by omega] at h2
  omega

def mk8 (b : Nat) : Nat → Nat
  | 0 => 0
  | k + 1 => b + 256 * mk8 b k
def s1 (k u : Nat) : Nat := u - ((u / 2) &&& mk8 85 k)
def s2 (k u : Nat) : Nat := (u &&& mk8 51 k) + ((u / 4) &&& mk8 51 k)
def s3 (k u : Nat) : Nat := (u + u / 16) &&& mk8 15 k
def b1 (b : Nat) : Nat := b - ((b / 2) &&& 85)
def b2 (b : Nat) : Nat := (b &&& 51) + ((b / 4) &&& 51)
def ck1 : Bool := (List.range 256).all fun b => (List.range 2).all fun c => ((b / 2 + 128 * c) &&& 85) == ((b / 2) &&& 85)
def ck2 : Bool := (List.range 256).all fun b => (List.range 4).all fun c => ((b / 4 + 64 * c) &&& 51) == ((b / 4) &&& 51)
def ck3 : Bool := (List.range 256).all fun b => decide (b1 b < 256) && decide (b2 (b1 b) < 100) && decide (b2 (b1 b) % 16 ≤ 4) && ((b2 (b1 b) + b2 (b1 b) / 16) % 16 == cnt b.testBit 8)
theorem ck1_ok : ck1 = true := by decide +kernel
theorem ck2_ok : ck2 = true := by decide +kernel
theorem ck3_ok : ck3 = true := by decide +kernel
theorem k1 {b c : Nat} (hb : b < 256) (hc : c < 2) : ((b / 2 + 128 * c) &&& 85) = ((b / 2) &&& 85) := by
  have := ck1_ok
  simp only [ck1, List.all_eq_true, List.mem_range, beq_iff_eq] at this
  exact this b hb c hc
theorem k2 {b c : Nat} (hb : b < 256) (hc : c < 4) : ((b / 4 + 64 * c) &&& 51) = ((b / 4) &&& 51) := by
  have := ck2_ok
  simp only [ck2, List.all_eq_true, List.mem_range, beq_iff_eq] at this
  exact this b hb c hc
theorem k3 {b : Nat} (hb : b < 256) : b1 b < 256 ∧ b2 (b1 b) < 100 ∧ b2 (b1 b) % 16 ≤ 4 ∧ (b2 (b1 b) + b2 (b1 b) / 16) % 16 = cnt b.testBit 8 := by
  have := ck3_ok
  simp only [ck3, List.all_eq_true, List.mem_range, beq_iff_eq, Bool.and_eq_true, decide_eq_true_eq] at this
  have h := this b hb
  exact ⟨h.1.1.1, h.1.1.2, h.1.2, h.2⟩
theorem s1_step {k b v : Nat} (hb : b < 256) : s1 (k + 1) (b + 256 * v) = b1 b + 256 * s1 k v := by
  have h := land_split (x := b / 2 + 128 * (v % 2)) (y := v / 2) (m := 85) (n := mk8 85 k) (by omega) (by omega)
  unfold s1 b1
  rw [mk8, show (b + 256 * v) / 2 = b / 2 + 128 * (v % 2) + 256 * (v / 2) by omega, h, k1 hb (by omega)]
  have l1 : (b / 2) &&& 85 ≤ b / 2 := Nat.and_le_left
  have l2 : (v / 2) &&& mk8 85 k ≤ v / 2 := Nat.and_le_left
  omega
theorem s2_step {k b v : Nat} (hb : b < 256) : s2 (k + 1) (b + 256 * v) = b2 b + 256 * s2 k v := by
  have h := land_split (x := b / 4 + 64 * (v % 4)) (y := v / 4) (m := 51) (n := mk8 51 k) (by omega) (by omega)
  have h' := land_split (x := b) (y := v) (m := 51) (n := mk8 51 k) hb (by omega)
  unfold s2 b2
  rw [mk8, show (b + 256 * v) / 4 = b / 4 + 64 * (v % 4) + 256 * (v / 4) by omega, h, h', k2 hb (by omega)]
  omega
theorem s12_low : ∀ {k u : Nat}, u < 256 ^ k → s2 k (s1 k u) % 16 ≤ 4
  | 0, u, h => by
    have : u = 0 := by simpa using h
    subst this
    decide
  | k + 1, u, h => by
    rw [show u = u % 256 + 256 * (u / 256) by omega, s1_step (by omega), s2_step (k3 (by omega)).1]
    have := (k3 (b := u % 256) (by omega)).2.2.1
    omega
theorem and15 (x : Nat) : x &&& 15 = x % 16 := Nat.and_two_pow_sub_one_eq_mod x 4
theorem s_step {k b v : Nat} (hb : b < 256) (hv : v < 256 ^ k) : s3 (k + 1) (s2 (k + 1) (s1 (k + 1) (b + 256 * v))) = cnt b.testBit 8 + 256 * s3 k (s2 k (s1 k v)) := by
  obtain ⟨h1, h2, h3, h4⟩ := k3 hb
  have hl := s12_low hv
  rw [s1_step hb, s2_step h1]
  generalize hT : s2 k (s1 k v) = T at *
  generalize ht : b2 (b1 b) = t at *
  have h := land_split (x := t + t / 16 + 16 * (T % 16)) (y := T + T / 16) (m := 15) (n := mk8 15 k) (by omega) (by omega)
  unfold s3
  rw [mk8, show t + 256 * T + (t + 256 * T) / 16 = t + t / 16 + 16 * (T % 16) + 256 * (T + T / 16) by omega, h, and15]
  omega
/-- The bytes' counts, each in a byte. -/
def sp : Nat → Nat → Nat
  | 0, _ => 0
  | k + 1, u => cnt (u % 256).testBit 8 + 256 * sp k (u / 256)
def spsum : Nat → Nat → Nat
  | 0, _ => 0
  | k + 1, u => cnt (u % 256).testBit 8 + spsum k (u / 256)
theorem s_all : ∀ {k u : Nat}, u < 256 ^ k → s3 k (s2 k (s1 k u)) = sp k u
  | 0, u, h => by
    have : u = 0 := by simpa using h
    subst this
    decide
  | k + 1, u, h => by
    have hv : u / 256 < 256 ^ k := by
      rw [Nat.pow_succ] at h
      exact Nat.div_lt_of_lt_mul (by omega)
    have := s_step (b := u % 256) (v := u / 256) (by omega) hv
    rw [show u % 256 + 256 * (u / 256) = u by omega] at this
    rw [this, s_all hv]
    rfl
theorem spsum_cnt : ∀ (k u : Nat), spsum k u = cnt u.testBit (8 * k)
  | 0, u => rfl
  | k + 1, u => by
    rw [show 8 * (k + 1) = 8 + 8 * k by omega, cnt_add, spsum, spsum_cnt k]
    congr 1
    · apply cnt_ext
      intro i hi
      rw [show (256 : Nat) = 2 ^ 8 from rfl, Nat.testBit_mod_two_pow]
      simp [hi]
    · apply cnt_ext
      intro i hi
      rw [show (256 : Nat) = 2 ^ 8 from rfl, Nat.testBit_div_two_pow, Nat.add_comm]
theorem mul_eq (p0 p1 p2 p3 p4 p5 p6 p7 : Nat) : (p0 + 256 * (p1 + 256 * (p2 + 256 * (p3 + 256 * (p4 + 256 * (p5 + 256 * (p6 + 256 * (p7 + 256 * 0)))))))) * 72340172838076673 = (1 * (p0) + 256 * (p0 + p1) + 65536 * (p0 + p1 + p2) + 16777216 * (p0 + p1 + p2 + p3) + 4294967296 * (p0 + p1 + p2 + p3 + p4) + 1099511627776 * (p0 + p1 + p2 + p3 + p4 + p5) + 281474976710656 * (p0 + p1 + p2 + p3 + p4 + p5 + p6)) + 72057594037927936 * (p0 + p1 + p2 + p3 + p4 + p5 + p6 + p7) + 18446744073709551616 * (1 * (p1 + p2 + p3 + p4 + p5 + p6 + p7) + 256 * (p2 + p3 + p4 + p5 + p6 + p7) + 65536 * (p3 + p4 + p5 + p6 + p7) + 16777216 * (p4 + p5 + p6 + p7) + 4294967296 * (p5 + p6 + p7) + 1099511627776 * (p6 + p7) + 281474976710656 * (p7)) := by omega
theorem low_lt {p0 p1 p2 p3 p4 p5 p6 : Nat} (h0 : p0 ≤ 8) (h1 : p1 ≤ 8) (h2 : p2 ≤ 8) (h3 : p3 ≤ 8) (h4 : p4 ≤ 8) (h5 : p5 ≤ 8) (h6 : p6 ≤ 8) : 1 * (p0) + 256 * (p0 + p1) + 65536 * (p0 + p1 + p2) + 16777216 * (p0 + p1 + p2 + p3) + 4294967296 * (p0 + p1 + p2 + p3 + p4) + 1099511627776 * (p0 + p1 + p2 + p3 + p4 + p5) + 281474976710656 * (p0 + p1 + p2 + p3 + p4 + p5 + p6) < 72057594037927936 := by omega
theorem cut_eq (L S Q : Nat) (hL : L < 72057594037927936) (hS : S < 256) : (L + 72057594037927936 * S + 18446744073709551616 * Q) % 18446744073709551616 / 72057594037927936 = S := by omega
theorem sp_mul {u : Nat} : sp 8 u * 72340172838076673 % 18446744073709551616 / 72057594037927936 = spsum 8 u := by
  have h0 := cnt_le (u % 256).testBit 8
  have h1 := cnt_le (u / 256 % 256).testBit 8
  have h2 := cnt_le (u / 256 / 256 % 256).testBit 8
  have h3 := cnt_le (u / 256 / 256 / 256 % 256).testBit 8
  have h4 := cnt_le (u / 256 / 256 / 256 / 256 % 256).testBit 8
  have h5 := cnt_le (u / 256 / 256 / 256 / 256 / 256 % 256).testBit 8
  have h6 := cnt_le (u / 256 / 256 / 256 / 256 / 256 / 256 % 256).testBit 8
  have h7 := cnt_le (u / 256 / 256 / 256 / 256 / 256 / 256 / 256 % 256).testBit 8
  have hs : ∀ {a b c d e f g h : Nat}, a ≤ 8 → b ≤ 8 → c ≤ 8 → d ≤ 8 → e ≤ 8 → f ≤ 8 → g ≤ 8 → h ≤ 8 → a + b + c + d + e + f + g + h < 256 := by omega
  have hr : ∀ (a b c d e f g h : Nat), a + (b + (c + (d + (e + (f + (g + (h + 0))))))) = a + b + c + d + e + f + g + h := by omega
  unfold spsum spsum spsum spsum spsum spsum spsum spsum spsum sp sp sp sp sp sp sp sp sp
  rw [mul_eq, cut_eq _ _ _ (low_lt h0 h1 h2 h3 h4 h5 h6) (hs h0 h1 h2 h3 h4 h5 h6 h7), hr]
/-- The program's way of counting. -/
def onesI (u : Int) : Int :=
  let a := IntKind.u64.wrap (u - bitAnd .u64 (shr .u64 u 1) 6148914691236517205)
  let b := IntKind.u64.wrap (bitAnd .u64 a 3689348814741910323 + bitAnd .u64 (shr .u64 a 2) 3689348814741910323)
  let c := bitAnd .u64 (IntKind.u64.wrap (b + shr .u64 b 4)) 1085102592571150095
  shr .u64 (IntKind.u64.wrap (c * 72340172838076673)) 56
theorem shr_nat (a n : Nat) (hn : n ≤ 64) : shr .u64 (a : Int) (n : Int) = ((a / 2 ^ n : Nat) : Int) := by
  unfold shr
  have h : min (n : Int).toNat IntKind.u64.bits = n := by
    show min (n : Int).toNat 64 = n
    omega
  rw [h, Int.fdiv_eq_ediv_of_nonneg _ (by exact Int.pow_nonneg (by omega))]
  push_cast
  rfl
theorem onesI_eq {u : Nat} (h : u < 2 ^ 64) : onesI (u : Int) = ((cnt u.testBit 64 : Nat) : Int) := by
  have m5 : mk8 85 8 = 6148914691236517205 := by decide
  have m3 : mk8 51 8 = 3689348814741910323 := by decide
  have mf : mk8 15 8 = 1085102592571150095 := by decide
  have hall := s_all (k := 8) (u := u) (by omega)
  have e1 : IntKind.u64.wrap ((u : Int) - bitAnd .u64 (shr .u64 (u : Int) 1) 6148914691236517205) = ((s1 8 u : Nat) : Int) := by
    have l : (u / 2) &&& mk8 85 8 ≤ u / 2 := Nat.and_le_left
    rw [show ((1 : Int)) = ((1 : Nat) : Int) from rfl, shr_nat u 1 (by omega), show (6148914691236517205 : Int) = ((6148914691236517205 : Nat) : Int) from rfl, and_nat (by omega) (by omega), ← m5]
    unfold s1
    rw [show (u : Int) - ((u / 2 ^ 1 &&& mk8 85 8 : Nat) : Int) = ((u - (u / 2 &&& mk8 85 8) : Nat) : Int) by simp only [Nat.pow_one]; omega]
    exact u64_wrap (by omega)
  have l1 : s1 8 u < 2 ^ 64 := by unfold s1; omega
  have e2 : IntKind.u64.wrap (bitAnd .u64 ((s1 8 u : Nat) : Int) 3689348814741910323 + bitAnd .u64 (shr .u64 ((s1 8 u : Nat) : Int) 2) 3689348814741910323) = ((s2 8 (s1 8 u) : Nat) : Int) := by
    generalize s1 8 u = a at l1 ⊢
    have la : a &&& mk8 51 8 ≤ mk8 51 8 := Nat.and_le_right
    have lb : (a / 4) &&& mk8 51 8 ≤ mk8 51 8 := Nat.and_le_right
    rw [show ((2 : Int)) = ((2 : Nat) : Int) from rfl, shr_nat a 2 (by omega), show (3689348814741910323 : Int) = ((3689348814741910323 : Nat) : Int) from rfl, and_nat l1 (by omega), and_nat (by omega) (by omega), ← m3]
    unfold s2
    rw [show ((a &&& mk8 51 8 : Nat) : Int) + ((a / 2 ^ 2 &&& mk8 51 8 : Nat) : Int) = ((((a &&& mk8 51 8) + ((a / 4) &&& mk8 51 8)) : Nat) : Int) by simp]
    exact u64_wrap (by omega)
  have l2 : s2 8 (s1 8 u) < 2 ^ 63 := by
    unfold s2
    have la : s1 8 u &&& mk8 51 8 ≤ mk8 51 8 := Nat.and_le_right
    have lb : (s1 8 u / 4) &&& mk8 51 8 ≤ mk8 51 8 := Nat.and_le_right
    omega
  have e3 : bitAnd .u64 (IntKind.u64.wrap (((s2 8 (s1 8 u) : Nat) : Int) + shr .u64 ((s2 8 (s1 8 u) : Nat) : Int) 4)) 1085102592571150095 = ((s3 8 (s2 8 (s1 8 u)) : Nat) : Int) := by
    generalize s2 8 (s1 8 u) = a at l2 ⊢
    rw [show ((4 : Int)) = ((4 : Nat) : Int) from rfl, shr_nat a 4 (by omega), show (a : Int) + ((a / 2 ^ 4 : Nat) : Int) = ((a + a / 16 : Nat) : Int) by simp, u64_wrap (by omega), show (1085102592571150095 : Int) = ((1085102592571150095 : Nat) : Int) from rfl, and_nat (by omega) (by omega), ← mf]
    rfl
  have e4 : IntKind.u64.wrap (((s3 8 (s2 8 (s1 8 u)) : Nat) : Int) * 72340172838076673) = ((sp 8 u * 72340172838076673 % 18446744073709551616 : Nat) : Int) := by
    rw [hall]
    generalize sp 8 u = x
    show ((x : Int) * 72340172838076673) % 18446744073709551616 = ((x * 72340172838076673 % 18446744073709551616 : Nat) : Int)
    omega
  unfold onesI
  simp only
  rw [e1, e2, e3, e4, show ((56 : Int)) = ((56 : Nat) : Int) from rfl, shr_nat _ 56 (by omega), show (2 : Nat) ^ 56 = 72057594037927936 from rfl, sp_mul, spsum_cnt]
theorem shl_one {k : Nat} (h : k < 64) : shl .u64 1 (k : Int) = ((2 ^ k : Nat) : Int) := by
  have hp : 2 ^ k ≤ 2 ^ 63 := Nat.pow_le_pow_right (by omega) (by omega)
  unfold shl
  rw [show min (k : Int).toNat IntKind.u64.bits = k by show min (k : Int).toNat 64 = k; omega, Int.one_mul]
  have := u64_wrap (n := 2 ^ k) (by omega)
  push_cast at this
  rw [this]; push_cast; rfl
theorem W_get {p : Nat → Bool} {m : Nat} (hm : m < 256) : (setOf p).getD (m / 64) 0 = W p (m / 64) := setOf_get (by omega)
theorem and_pow (x i : Nat) : x &&& 2 ^ i = bif x.testBit i then 2 ^ i else 0 := by
  apply Nat.eq_of_testBit_eq
  intro j
  rw [Nat.testBit_and, Nat.testBit_two_pow]
  by_cases h : i = j
  · subst h
    cases hb : x.testBit i
    · simp
    · simp [Nat.testBit_two_pow]
  · cases hb : x.testBit i <;> simp [h, Nat.testBit_two_pow]
theorem W_has {p : Nat → Bool} {m : Nat} (hm : m < 256) : (bitAnd .u64 (W p (m / 64)) ((2 ^ (m % 64) : Nat) : Int) != 0) = p m := by
  have hp : 2 ^ (m % 64) ≤ 2 ^ 63 := Nat.pow_le_pow_right (by omega) (by omega)
  unfold W
  rw [and_nat (W_nat p _) (by omega), and_pow, wd_bit, show 64 * (m / 64) + m % 64 = m by omega]
  have h1 : 1 ≤ 2 ^ (m % 64) := Nat.one_le_two_pow
  cases hb : p m
  · simp
  · simp only [show m % 64 < 64 by omega, decide_true, Bool.true_and, cond_true, bne_iff_ne, ne_eq]
    omega
theorem W_with {p : Nat → Bool} {m : Nat} (hm : m < 256) : bitOr .u64 (W p (m / 64)) ((2 ^ (m % 64) : Nat) : Int) = W (fun i => p i || decide (i = m)) (m / 64) := by
  have hp : 2 ^ (m % 64) ≤ 2 ^ 63 := Nat.pow_le_pow_right (by omega) (by omega)
  unfold W
  rw [or_nat (W_nat p _) (by omega)]
  congr 1
  apply Nat.eq_of_testBit_eq
  intro i
  rw [Nat.testBit_or, wd_bit, wd_bit, Nat.testBit_two_pow]
  by_cases hi : i < 64
  · simp only [hi, decide_true, Bool.true_and]
    congr 1
    rw [Bool.eq_iff_iff]
    simp only [decide_eq_true_eq]
    omega
  · simp only [hi, decide_false, Bool.false_and, Bool.false_or, decide_eq_false_iff_not]
    omega
theorem setOf_set {p q : Nat → Bool} {w : Nat} (hw : w < 4) (h : ∀ i, i < 256 → i / 64 ≠ w → p i = q i) : (setOf p).set w (W q w) = setOf q := by
  have e : ∀ v, v < 4 → v ≠ w → W p v = W q v := fun v hv hne => W_ext fun i h1 h2 => h i (by omega) (by omega)
  have : w = 0 ∨ w = 1 ∨ w = 2 ∨ w = 3 := by omega
  rcases this with rfl | rfl | rfl | rfl <;> simp only [setOf, List.set_cons_zero, List.set_cons_succ]
  · rw [e 1 (by omega) (by omega), e 2 (by omega) (by omega), e 3 (by omega) (by omega)]
  · rw [e 0 (by omega) (by omega), e 2 (by omega) (by omega), e 3 (by omega) (by omega)]
  · rw [e 0 (by omega) (by omega), e 1 (by omega) (by omega), e 3 (by omega) (by omega)]
  · rw [e 0 (by omega) (by omega), e 1 (by omega) (by omega), e 2 (by omega) (by omega)]
theorem W_cnt (p : Nat → Bool) (w : Nat) : cnt (W p w).toNat.testBit 64 = cnt (fun i => p (64 * w + i)) 64 := by
  apply cnt_ext
  intro i hi
  simp only [W, Int.toNat_natCast, wd_bit, hi, decide_true, Bool.true_and]
theorem tdiv_nat (m k : Nat) : (m : Int).tdiv k = ((m / k : Nat) : Int) := rfl
theorem tmod_nat (m k : Nat) : (m : Int).tmod k = ((m % k : Nat) : Int) := rfl
theorem tdiv2 (x : Nat) : (x : Int).tdiv 2 = ((x / 2 : Nat) : Int) := rfl
theorem tmod2 (x : Nat) : (x : Int).tmod 2 = ((x % 2 : Nat) : Int) := rfl
theorem i64_nat {m : Nat} (h : m < 9223372036854775808) : IntKind.i64.wrap (m : Int) = m := IntWalk.i64_in _ ⟨by omega, by omega⟩
end Go.Abs
/- THE LEAST BIT: plain facts. -/
set_option linter.unusedVariables false
set_option linter.unusedSimpArgs false
namespace Go.Abs
/-- The first place of all. -/
def firstOf (p : Nat → Bool) : Nat → Option Nat
  | 0 => none
  | n + 1 => match firstOf p n with
    | some i => some i
    | none => if p n then some n else none
theorem firstOf_none {p : Nat → Bool} : ∀ {n : Nat}, firstOf p n = none ↔ ∀ i, i < n → p i = false
  | 0 => ⟨fun _ i h => (by omega), fun _ => rfl⟩
  | n + 1 => by
    have ih := firstOf_none (p := p) (n := n)
    simp only [firstOf]
    cases h : firstOf p n with
    | some m =>
      refine ⟨fun h' => by simp at h', fun h' => ?_⟩
      have := ih.2 fun i hi => h' i (by omega)
      rw [h] at this; cases this
    | none =>
      have h1 := ih.1 h
      cases hp : p n with
      | false => exact ⟨fun _ i hi => if e : i = n then e ▸ hp else h1 i (by omega), fun _ => by simp⟩
      | true => exact ⟨fun h' => by simp at h', fun h' => by have := h' n (by omega); rw [hp] at this; cases this⟩
theorem firstOf_some {p : Nat → Bool} : ∀ {n m : Nat}, firstOf p n = some m ↔ m < n ∧ p m = true ∧ ∀ i, i < m → p i = false
  | 0, m => ⟨fun h => (by cases h), fun h => (by omega)⟩
  | n + 1, m => by
    have ih := firstOf_some (p := p) (n := n) (m := m)
    simp only [firstOf]
    cases h : firstOf p n with
    | some k =>
      rw [h] at ih
      simp only [Option.some.injEq] at ih ⊢
      have hk := (firstOf_some (p := p) (n := n) (m := k)).1 h
      refine ⟨fun e => ?_, fun e => ?_⟩
      · subst e; exact ⟨by omega, hk.2.1, hk.2.2⟩
      · by_cases h1 : k < m
        · have := e.2.2 k h1; rw [hk.2.1] at this; cases this
        · by_cases h2 : m < k
          · have := hk.2.2 m h2; rw [e.2.1] at this; cases this
          · omega
    | none =>
      have h1 := firstOf_none.1 h
      cases hp : p n with
      | false =>
        refine ⟨fun h' => by simp at h', fun e => ?_⟩
        by_cases hm : m = n
        · subst hm; rw [hp] at e; cases e.2.1
        · have := h1 m (by omega); rw [e.2.1] at this; cases this
      | true =>
        refine ⟨fun h' => ?_, fun e => ?_⟩
        · simp only [if_true, Option.some.injEq] at h'
          subst h'
          exact ⟨by omega, hp, h1⟩
        · by_cases hm : m = n
          · subst hm; simp
          · have := h1 m (by omega); rw [e.2.1] at this; cases this

theorem odd_bit (r i : Nat) : (2 * r + 1).testBit i = (decide (i = 0) || (2 * r).testBit i) := by
  cases i with
  | zero => simp [Nat.testBit_zero]
  | succ i => rw [Nat.testBit_succ, Nat.testBit_succ, show (2 * r + 1) / 2 = 2 * r / 2 by omega]; simp
theorem pred_div {b s : Nat} (hb : 1 ≤ b) : (b * (s + 1) - 1) / b = s := by
  rw [Nat.mul_add, Nat.mul_one, Nat.add_sub_assoc hb, Nat.mul_add_div (by omega), Nat.div_eq_of_lt (by omega), Nat.add_zero]
theorem low_bit {u k : Nat} (h : u < 2 ^ 64) (hk : u.testBit k = true) (hl : ∀ j, j < k → u.testBit j = false) : u &&& (2 ^ 64 - u) = 2 ^ k := by
  have hk64 : k < 64 := by
    by_cases h' : k < 64
    · exact h'
    · rw [Nat.testBit_lt_two_pow (Nat.lt_of_lt_of_le h (Nat.pow_le_pow_right (by omega) (by omega)))] at hk; cases hk
  have hm : u % 2 ^ k = 0 := by
    apply Nat.eq_of_testBit_eq
    intro j
    rw [Nat.testBit_mod_two_pow, Nat.zero_testBit]
    by_cases hj : j < k
    · simp [hl j hj]
    · simp [hj]
  have hq : (u / 2 ^ k) % 2 = 1 := by
    have := hk
    rw [Nat.testBit_eq_decide_div_mod_eq] at this
    simpa using this
  obtain ⟨r, hr⟩ : ∃ r, u / 2 ^ k = 2 * r + 1 := ⟨u / 2 ^ k / 2, by omega⟩
  have hp : 1 ≤ 2 ^ k := Nat.one_le_two_pow
  have hu : u = 2 ^ k * (2 * r + 1) := by rw [← hr]; exact (Nat.mul_div_cancel' (Nat.dvd_of_mod_eq_zero hm)).symm
  have hu1 : (u - 1) / 2 ^ k = 2 * r := by rw [hu]; exact pred_div hp
  have hpos : 0 < u := by rw [hu]; exact Nat.mul_pos hp (by omega)
  apply Nat.eq_of_testBit_eq
  intro j
  rw [Nat.testBit_and, show 2 ^ 64 - u = 2 ^ 64 - ((u - 1) + 1) by omega, Nat.testBit_two_pow_sub_succ (by omega), Nat.testBit_two_pow]
  by_cases hj : j < k
  · simp only [hl j hj, Bool.false_and]
    symm; simp only [decide_eq_false_iff_not]; omega
  · obtain ⟨i, rfl⟩ : ∃ i, j = k + i := ⟨j - k, by omega⟩
    have e1 : u.testBit (k + i) = (u / 2 ^ k).testBit i := by rw [Nat.testBit_div_two_pow, Nat.add_comm]
    have e2 : (u - 1).testBit (k + i) = ((u - 1) / 2 ^ k).testBit i := by rw [Nat.testBit_div_two_pow, Nat.add_comm]
    rw [e1, e2, hr, hu1, odd_bit]
    cases i with
    | zero => simp [hk64, Nat.testBit_zero]
    | succ i => cases (2 * r).testBit (i + 1) <;> simp
theorem cnt_low {k : Nat} : ∀ {n : Nat}, k ≤ n → cnt (fun i => decide (i < k)) n = k
  | 0, h => by simp only [cnt]; omega
  | n + 1, h => by
    simp only [cnt]
    by_cases hk : k ≤ n
    · rw [cnt_low hk]; simp; omega
    · have : k = n + 1 := by omega
      subst this
      rw [cnt_ext (q := fun i => decide (i < n)) fun i hi => by simp; omega, cnt_low (Nat.le_refl n)]
      simp
/-- The place of the least bit of a word, as it is reckoned. -/
def lowI (u : Int) : Int := IntKind.u64.wrap (bitAnd .u64 u (IntKind.u64.wrap (0 - u)) - 1)
theorem lowI_eq {u k : Nat} (h : u < 2 ^ 64) (hk : u.testBit k = true) (hl : ∀ j, j < k → u.testBit j = false) : lowI (u : Int) = ((2 ^ k - 1 : Nat) : Int) ∧ k < 64 := by
  have hk64 : k < 64 := by
    by_cases h' : k < 64
    · exact h'
    · rw [Nat.testBit_lt_two_pow (Nat.lt_of_lt_of_le h (Nat.pow_le_pow_right (by omega) (by omega)))] at hk; cases hk
  have hpos : 0 < u := by
    rcases Nat.eq_zero_or_pos u with e | e
    · subst e; simp at hk
    · exact e
  have e : IntKind.u64.wrap (0 - (u : Int)) = ((2 ^ 64 - u : Nat) : Int) := by
    show (0 - (u : Int)) % 18446744073709551616 = _
    omega
  have hp : 2 ^ k ≤ 2 ^ 63 := Nat.pow_le_pow_right (by omega) (by omega)
  have h1 : 1 ≤ 2 ^ k := Nat.one_le_two_pow
  refine ⟨?_, hk64⟩
  unfold lowI
  rw [e, and_nat h (by omega), low_bit h hk hl, show ((2 ^ k : Nat) : Int) - 1 = ((2 ^ k - 1 : Nat) : Int) by omega, u64_wrap (by omega)]
theorem cnt_pow {k : Nat} (h : k ≤ 64) : cnt (2 ^ k - 1).testBit 64 = k := by
  rw [cnt_ext (q := fun i => decide (i < k)) fun i _ => Nat.testBit_two_pow_sub_one k i, cnt_low h]

/-- The end of a run. -/
def runF (p : Nat → Bool) : Nat → Nat → Nat
  | 0, m => m
  | k + 1, m => if m + 1 < 256 ∧ p (m + 1) = true then runF p k (m + 1) else m
def runEnd (p : Nat → Bool) (m : Nat) : Nat := runF p (255 - m) m
theorem runEnd_on {p : Nat → Bool} {m : Nat} (h : m + 1 < 256) (hp : p (m + 1) = true) : runEnd p m = runEnd p (m + 1) := by
  unfold runEnd
  rw [show 255 - m = (255 - (m + 1)) + 1 by omega, runF, if_pos ⟨h, hp⟩]
theorem runEnd_stop {p : Nat → Bool} {m : Nat} (h : ¬ (m + 1 < 256 ∧ p (m + 1) = true)) : runEnd p m = m := by
  unfold runEnd
  cases 255 - m with
  | zero => rfl
  | succ k => rw [runF, if_neg h]
end Go.Abs
/- THE TEXT OF A SET: what it is, plainly. -/
set_option linter.unusedVariables false
set_option linter.unusedSimpArgs false
namespace Go.Abs
def itoaB (n : Int) : ByteArray := ⟨(Lib.itoa n).toArray⟩
def joinB (xs : List ByteArray) (sep : ByteArray) : ByteArray := ⟨(Lib.join (xs.map (·.data.toList)) sep.data.toList).toArray⟩
def inRange (a b : Int) (i : Nat) : Bool := decide (a ≤ (i : Int)) && decide ((i : Int) ≤ b)
theorem cnt_lt {p q : Nat → Bool} : ∀ {n m : Nat}, (∀ i, i < n → p i = true → q i = true) → m < n → q m = true → p m = false → cnt p n < cnt q n
  | 0, m, _, h, _, _ => by omega
  | n + 1, m, hs, hm, hq, hp => by
    have hle : ∀ k, k ≤ n + 1 → cnt p k ≤ cnt q k := by
      intro k
      induction k with
      | zero => intro _; exact Nat.le_refl _
      | succ k ih =>
        intro hk
        have h1 := ih (by omega)
        have h2 := hs k (by omega)
        simp only [cnt]
        cases hpk : p k
        · simp only [Bool.false_eq_true, if_false]; split <;> omega
        · rw [h2 hpk]; simp only [if_true]; omega
    by_cases e : m = n
    · subst e
      have := hle m (by omega)
      simp only [cnt, hp, hq, if_true, Bool.false_eq_true, if_false]
      omega
    · have := cnt_lt (n := n) (m := m) (fun i hi => hs i (by omega)) (by omega) hq hp
      have h2 := hs n (by omega)
      simp only [cnt]
      cases hpk : p n
      · simp only [Bool.false_eq_true, if_false]; split <;> omega
      · rw [h2 hpk]; simp only [if_true]; omega
theorem runF_le (p : Nat → Bool) : ∀ k m, m ≤ runF p k m
  | 0, m => Nat.le_refl _
  | k + 1, m => by
    rw [runF]
    split
    · have := runF_le p k (m + 1); omega
    · exact Nat.le_refl _
theorem runEnd_ge (p : Nat → Bool) (m : Nat) : m ≤ runEnd p m := runF_le p _ m
theorem runF_lt (p : Nat → Bool) : ∀ k m, m < 256 → runF p k m < 256
  | 0, m, h => h
  | k + 1, m, h => by
    rw [runF]
    split
    · rename_i h'; exact runF_lt p k (m + 1) h'.1
    · exact h
theorem runEnd_lt {p : Nat → Bool} {m : Nat} (h : m < 256) : runEnd p m < 256 := runF_lt p _ m h
theorem runF_in (p : Nat → Bool) : ∀ k m i, m < i → i ≤ runF p k m → p i = true
  | 0, m, i, h, h' => by simp only [runF] at h'; omega
  | k + 1, m, i, h, h' => by
    rw [runF] at h'
    split at h'
    · rename_i hc
      by_cases e : i = m + 1
      · subst e; exact hc.2
      · exact runF_in p k (m + 1) i (by omega) h'
    · omega
/-- A run's text. -/
def pieceB (m e : Nat) : ByteArray := bif decide ((e : Int) > m) then itoaB m ++ (⟨#[45]⟩ ++ itoaB e) else itoaB m
def cutRun (l : List Int) (m : Nat) : List Int := setOf fun i => bitAt l i && !bitAt (setOf (inRange m (runEnd (bitAt l) m))) i
theorem cutRun_bit (l : List Int) (m : Nat) {i : Nat} (hi : i < 256) : bitAt (cutRun l m) i = (bitAt l i && !inRange m (runEnd (bitAt l) m) i) := by
  unfold cutRun
  rw [bitAt_setOf hi, bitAt_setOf hi]
theorem cutRun_lt {l : List Int} {m : Nat} (h : firstOf (bitAt l) 256 = some m) : cnt (bitAt (cutRun l m)) 256 < cnt (bitAt l) 256 := by
  obtain ⟨h1, h2, _⟩ := firstOf_some.1 h
  refine cnt_lt (m := m) (fun i hi hp => ?_) h1 h2 ?_
  · rw [cutRun_bit l m hi, Bool.and_eq_true] at hp; exact hp.1
  · have := runEnd_ge (bitAt l) m
    rw [cutRun_bit l m h1, h2]
    simp only [inRange]
    simp
    omega
def first256 (l : List Int) : Option Nat := firstOf (bitAt l) 256
theorem first256_eq {l : List Int} : first256 l = firstOf (bitAt l) 256 := rfl
attribute [local irreducible] first256
/-- The texts of all runs. -/
def pcs : Nat → List Int → List ByteArray
  | 0, _ => []
  | k + 1, l => match first256 l with
    | none => []
    | some m => pieceB m (runEnd (bitAt l) m) :: pcs k (cutRun l m)
theorem pcs_none {l : List Int} (h : first256 l = none) (k : Nat) : pcs k l = [] := by
  cases k with
  | zero => rfl
  | succ k => simp only [pcs, h]
theorem pcs_some {l : List Int} {m : Nat} (h : first256 l = some m) (k : Nat) : pcs (k + 1) l = pieceB m (runEnd (bitAt l) m) :: pcs k (cutRun l m) := by
  simp only [pcs, h]
theorem pcs_more : ∀ (k : Nat) (l : List Int), cnt (bitAt l) 256 ≤ k → pcs (k + 1) l = pcs k l
  | 0, l, h => by
    cases hf : first256 l with
    | none => rw [pcs_none hf, pcs_none hf]
    | some m => have := cutRun_lt (l := l) (first256_eq.symm.trans hf); omega
  | k + 1, l, h => by
    cases hf : first256 l with
    | none => rw [pcs_none hf, pcs_none hf]
    | some m =>
      have := cutRun_lt (l := l) (first256_eq.symm.trans hf)
      rw [pcs_some hf, pcs_some hf, pcs_more k _ (by omega)]
theorem pcs_fuel (l : List Int) : ∀ (d : Nat), pcs (cnt (bitAt l) 256 + d) l = pcs (cnt (bitAt l) 256) l
  | 0 => rfl
  | d + 1 => by rw [← Nat.add_assoc, pcs_more _ _ (Nat.le_add_right _ _), pcs_fuel l d]
def pieces (l : List Int) : List ByteArray := pcs (cnt (bitAt l) 256) l
theorem pieces_none {l : List Int} (h : firstOf (bitAt l) 256 = none) : pieces l = [] := pcs_none (first256_eq.trans h) _
theorem pieces_some {l : List Int} {m : Nat} (h : firstOf (bitAt l) 256 = some m) : pieces l = pieceB m (runEnd (bitAt l) m) :: pieces (cutRun l m) := by
  have hlt := cutRun_lt h
  unfold pieces
  obtain ⟨k, hk⟩ : ∃ k, cnt (bitAt l) 256 = k + 1 := ⟨cnt (bitAt l) 256 - 1, by omega⟩
  obtain ⟨d, hd⟩ : ∃ d, k = cnt (bitAt (cutRun l m)) 256 + d := ⟨k - cnt (bitAt (cutRun l m)) 256, by omega⟩
  rw [hk, pcs_some (first256_eq.trans h), hd, pcs_fuel]
theorem bsize (x : ByteArray) : x.data.toList.length = x.size := by rw [Array.length_toList]; rfl
theorem itoaB_size {n : Nat} (h : n < 256) : (itoaB n).size ≤ 21 := by
  have := Lib.itoa_length_le (n : Int) (by omega) (by omega)
  rw [← bsize]; exact this
theorem pieceB_size {m e : Nat} (hm : m < 256) (he : e < 256) : (pieceB m e).size ≤ 43 := by
  have h1 := itoaB_size hm
  have h2 := itoaB_size he
  unfold pieceB
  cases decide ((e : Int) > m)
  · simp only [cond_false]; omega
  · simp only [cond_true, ByteArray.size_append]
    have : (⟨#[45]⟩ : ByteArray).size = 1 := rfl
    omega
theorem lens_le {k : Nat} : ∀ {xs : List ByteArray}, (∀ x ∈ xs, x.size ≤ k) → Lib.lens (xs.map (·.data.toList)) ≤ xs.length * k
  | [], _ => by simp [Lib.lens]
  | x :: xs, h => by
    have ih := lens_le (k := k) (xs := xs) fun y hy => h y (by simp [hy])
    have hx := h x (by simp)
    simp only [Lib.lens, List.map_cons, List.sum_cons, List.length_cons] at ih ⊢
    rw [Nat.add_mul]
    have := bsize x
    omega
theorem joinB_size {k : Nat} {xs : List ByteArray} {sep : ByteArray} (h : ∀ x ∈ xs, x.size ≤ k) : (joinB xs sep).size ≤ xs.length * (k + sep.size) := by
  cases xs with
  | nil => exact Nat.zero_le _
  | cons x xs =>
    have h1 := lens_le (k := k) (xs := xs) fun y hy => h y (by simp [hy])
    have hx := h x (by simp)
    have e1 := bsize x
    have e2 := bsize sep
    have e3 : (joinB (x :: xs) sep).size = (Lib.join ((x :: xs).map (·.data.toList)) sep.data.toList).length := by rw [← bsize]; rfl
    rw [e3, List.map_cons, Lib.join_cons, List.length_append, Lib.joinTail_length, e1, e2, List.length_map, List.length_cons, Nat.add_mul, Nat.mul_add, Nat.mul_comm sep.size]
    omega
/-- A set's text. -/
def textB (l : List Int) : ByteArray := bif decide ((((pieces l).length : Nat) : Int) = 0) then ⟨#[45]⟩ else joinB (pieces l) ⟨#[44]⟩
end Go.Abs
/- SETS BIT BY BIT: plain facts. -/
set_option linter.unusedVariables false
set_option linter.unusedSimpArgs false
namespace Go.Abs
/-- A word without its lowest ones, where the first 'i' of all places are struck. -/
def ofW (p : Nat → Bool) (i w : Nat) : Nat := wd (fun j => p (64 * w + j)) 64 / 2 ^ (min 64 (i - 64 * w))
def ofL (p : Nat → Bool) (i : Nat) : List Int := [((ofW p i 0 : Nat) : Int), ((ofW p i 1 : Nat) : Int), ((ofW p i 2 : Nat) : Int), ((ofW p i 3 : Nat) : Int)]
theorem ofW_lt (p : Nat → Bool) (i w : Nat) : ofW p i w < 2 ^ 64 := Nat.lt_of_le_of_lt (Nat.div_le_self _ _) (wd_lt _ _)
theorem ofL_get {p : Nat → Bool} {i w : Nat} (h : w < 4) : (ofL p i).getD w 0 = ((ofW p i w : Nat) : Int) := by
  have : w = 0 ∨ w = 1 ∨ w = 2 ∨ w = 3 := by omega
  rcases this with rfl | rfl | rfl | rfl <;> rfl
theorem ofL_zero (p : Nat → Bool) : ofL p 0 = setOf p := by
  simp [ofL, ofW, setOf, W]
theorem ofL_full (p : Nat → Bool) : ofL p 256 = [0, 0, 0, 0] := by
  have h : ∀ w, w < 4 → ofW p 256 w = 0 := fun w hw => by
    unfold ofW
    rw [show min 64 (256 - 64 * w) = 64 by omega]
    exact Nat.div_eq_of_lt (wd_lt _ _)
  simp [ofL, h 0, h 1, h 2, h 3]
theorem ofW_other {p : Nat → Bool} {i w : Nat} (h : w ≠ i / 64) : ofW p (i + 1) w = ofW p i w := by
  unfold ofW
  congr 2
  omega
theorem ofW_bit (p : Nat → Bool) (i : Nat) : ofW p i (i / 64) = 2 * ofW p (i + 1) (i / 64) + (if p i then 1 else 0) := by
  have hb := wd_bit (fun j => p (64 * (i / 64) + j)) 64 (i % 64)
  rw [Nat.testBit_eq_decide_div_mod_eq, show 64 * (i / 64) + i % 64 = i by omega] at hb
  simp only [show i % 64 < 64 by omega, decide_true, Bool.true_and] at hb
  unfold ofW
  rw [show min 64 (i - 64 * (i / 64)) = i % 64 by omega, show min 64 (i + 1 - 64 * (i / 64)) = i % 64 + 1 by omega, Nat.pow_succ, ← Nat.div_div_eq_div_mul]
  generalize wd (fun j => p (64 * (i / 64) + j)) 64 / 2 ^ (i % 64) = x at *
  cases hp : p i <;> rw [hp] at hb <;> simp at hb ⊢ <;> omega
theorem ofL_set {p : Nat → Bool} {i j w : Nat} (hw : w < 4) (h : ∀ v, v < 4 → v ≠ w → ofW p i v = ofW p j v) : (ofL p i).set w ((ofW p j w : Nat) : Int) = ofL p j := by
  have : w = 0 ∨ w = 1 ∨ w = 2 ∨ w = 3 := by omega
  rcases this with rfl | rfl | rfl | rfl <;> simp only [ofL, List.set_cons_zero, List.set_cons_succ]
  · rw [h 1 (by omega) (by omega), h 2 (by omega) (by omega), h 3 (by omega) (by omega)]
  · rw [h 0 (by omega) (by omega), h 2 (by omega) (by omega), h 3 (by omega) (by omega)]
  · rw [h 0 (by omega) (by omega), h 1 (by omega) (by omega), h 3 (by omega) (by omega)]
  · rw [h 0 (by omega) (by omega), h 1 (by omega) (by omega), h 2 (by omega) (by omega)]
theorem ofL_next {p : Nat → Bool} {i : Nat} (hi : i < 256) : (ofL p i).set (i / 64) ((ofW p i (i / 64) / 2 : Nat) : Int) = ofL p (i + 1) := by
  have hb := ofW_bit p i
  rw [show ofW p i (i / 64) / 2 = ofW p (i + 1) (i / 64) by split at hb <;> omega]
  exact ofL_set (by omega) fun v _ hv => (ofW_other hv).symm
theorem ofL_back {p : Nat → Bool} {i : Nat} (hi : i < 256) : (ofL p (i + 1)).set (i / 64) ((ofW p i (i / 64) : Nat) : Int) = ofL p i := ofL_set (by omega) fun v _ hv => ofW_other hv
/-- The first 'i' of a list's places told. -/
def upTo (p : Nat → Bool) (n i : Nat) : List Bool := (List.range n).map fun k => decide (k < i) && p k
theorem upTo_zero (p : Nat → Bool) (n : Nat) : upTo p n 0 = List.replicate n false := by
  apply List.ext_getElem
  · simp [upTo]
  · intro k h1 h2; simp [upTo]
theorem upTo_len (p : Nat → Bool) (n i : Nat) : (upTo p n i).length = n := by simp [upTo]
theorem upTo_set {p : Nat → Bool} {n i : Nat} (h : i < n) : (upTo p n i).set i (p i) = upTo p n (i + 1) := by
  apply List.ext_getElem
  · simp [upTo]
  · intro k h1 h2
    rw [List.getElem_set]
    simp only [upTo, List.getElem_map, List.getElem_range]
    split
    · rename_i e; subst e; simp
    · rename_i e
      congr 1
      rw [Bool.eq_iff_iff]; simp only [decide_eq_true_eq]; omega
theorem upTo_full (p : Nat → Bool) (n : Nat) : upTo p n n = (List.range n).map p := by
  apply List.ext_getElem
  · simp [upTo]
  · intro k h1 h2
    simp only [upTo, List.getElem_map, List.getElem_range]
    simp only [upTo, List.length_map, List.length_range] at h1
    simp [h1]
theorem upTo_get {p : Nat → Bool} {n i k : Nat} (h : k < n) : (upTo p n i).getD k false = (decide (k < i) && p k) := by
  rw [List.getD_eq_getElem?_getD, List.getElem?_eq_getElem (by simpa [upTo] using h)]
  simp [upTo]
theorem map_get {p : Nat → Bool} {n k : Nat} (h : k < n) : ((List.range n).map p).getD k false = p k := by
  rw [List.getD_eq_getElem?_getD, List.getElem?_eq_getElem (by simpa using h)]
  simp
end Go.Abs
/- ALONG ONE PATH: tests that are known to hold are conditions. -/
set_option linter.unusedVariables false
set_option linter.unusedSimpArgs false
namespace Go.Abs
variable {P : Program} {G : Nat → PV}

def stepT (X : Ctx) (O : OpX) (c : Cfg) : Option (Cfg × List (Unit → Prop)) :=
  match stepF X O c with
  | some q => some q
  | none => match stuckOn c with
    | some t => match c.A.get t with
      | .bool b => some (⟨c.k, (t, .tt) :: c.A, c.S, c.n⟩, [fun _ => b () = true])
      | _ => none
    | none => none
def stepsT (X : Ctx) (O : OpX) : Nat → Cfg → Cfg × List (Unit → Prop)
  | 0, c => (c, [])
  | m + 1, c => match stepT X O c with
    | some (c', C) => match stepsT X O m c' with
      | (c'', C') => (c'', C ++ C')
    | none => (c, [])
theorem stepF_ok {X : Ctx} {fn : Func} (hX : OK P X fn) {O : OpX} (hO : OpXOK P X.G O) {Q : PV → Store → Prop} {c c' : Cfg} {C : List (Unit → Prop)} (hwf : wfK c.k = true) (h : stepF X O c = some (c', C)) :
    wfK c'.k = true ∧ ((∀ q ∈ C, q ()) → RunC P X fn Q c' → RunC P X fn Q c) := by
  unfold stepF at h
  cases h1 : step1 X c with
  | some q' => rw [h1] at h; simp only [Option.some.injEq] at h; subst h; exact step1_ok hX hwf h1
  | none => rw [h1] at h; exact xStep_ok hO hwf h
theorem stepT_ok {X : Ctx} {fn : Func} (hX : OK P X fn) {O : OpX} (hO : OpXOK P X.G O) {Q : PV → Store → Prop} {c c' : Cfg} {C : List (Unit → Prop)} (hwf : wfK c.k = true) (h : stepT X O c = some (c', C)) :
    wfK c'.k = true ∧ ((∀ q ∈ C, q ()) → RunC P X fn Q c' → RunC P X fn Q c) := by
  unfold stepT at h
  split at h
  · rename_i q hq
    simp only [Option.some.injEq] at h
    subst h
    exact stepF_ok hX hO hwf hq
  · split at h
    · rename_i t _
      split at h
      · rename_i b hA
        simp only [Option.some.injEq, Prod.mk.injEq] at h
        obtain ⟨rfl, rfl⟩ := h
        refine ⟨hwf, fun hC hr => run_bool t hA (fun _ => hr) fun hf => ?_⟩
        have ht : b () = true := hC _ (List.mem_singleton.2 rfl)
        rw [ht] at hf; cases hf
      · cases h
    · cases h
theorem stepsT_ok {X : Ctx} {fn : Func} (hX : OK P X fn) {O : OpX} (hO : OpXOK P X.G O) {Q : PV → Store → Prop} : ∀ (m : Nat) (c : Cfg), wfK c.k = true →
    wfK (stepsT X O m c).1.k = true ∧ (conds (stepsT X O m c).2 → RunC P X fn Q (stepsT X O m c).1 → RunC P X fn Q c)
  | 0, c, hwf => ⟨hwf, fun _ h => h⟩
  | m + 1, c, hwf => by
    rw [stepsT]
    cases h : stepT X O c with
    | none => exact ⟨hwf, fun _ h => h⟩
    | some q =>
      obtain ⟨c', C⟩ := q
      obtain ⟨h1, h2⟩ := stepT_ok hX hO (Q := Q) hwf h
      obtain ⟨h3, h4⟩ := stepsT_ok hX hO (Q := Q) m c' h1
      exact ⟨h3, fun hC hr => h2 (conds_mem (conds_append hC).1) (h4 (conds_append hC).2 hr)⟩
theorem run_true {X : Ctx} {fn : Func} (hX : OK P X fn) {O : OpX} (hO : OpXOK P X.G O) {Q : PV → Store → Prop} {c : Cfg} (m : Nat) (hwf : wfK c.k = true) (h : Good P X fn Q (stepsT X O m c)) : RunC P X fn Q c := by
  have h2 := (stepsT_ok hX hO (Q := Q) m c hwf).2
  revert h h2
  cases stepsT X O m c with
  | mk a b => exact fun h h2 => h2 h.1 h.2
theorem FnOK.of_run {X : Ctx} {f : Nat} {fn : Func} {c : Code} (h : FnOK P X f fn c) {args r : PV} (hle : bleN args.count X.N = true) (hr : RunC P X fn (Ret r) ⟨[.code c], Env.enter 0 args, [], 0⟩) : PFun P X.G f args r := by
  refine ⟨h.callable, fun M w vs hG hI hv => (calls_of_run h.func h.body h.ntmps (by simpa using hle) (by rw [h.n0]; exact Nat.le_refl _) hr hG hI (fun _ _ => rfl) hv).mono ?_⟩
  rintro e w' ⟨M', ρ', v, pv, S', a', rfl, h1, h2, h3, h4⟩
  exact ⟨M', ρ', v, S', a', rfl, by rw [h.n0] at h1; exact h1, impP_ok _ _ h4 (strip_rel _ h3 h2)⟩
end Go.Abs
/- TWO WAYS THAT MEET AGAIN. -/
set_option linter.unusedVariables false
set_option linter.unusedSimpArgs false
namespace Go.Abs
variable {P : Program} {X : Ctx} {fn : Func} {Q : PV → Store → Prop}

theorem tree_join {b : Unit → Bool} {C : List (Unit → Prop)} {k : List It} {A1 A2 : Env} {S1 S2 : Store} {n1 n2 : Nat} (A : Env) (S : Store) (n : Nat) (σ1 σ2 : Nat → Nat) (hk : plainK k = true) (h : RunC P X fn Q ⟨k, A, S, n⟩)
    (hm1 : mvOK σ1 X.n0 n A S = true) (hm2 : mvOK σ2 X.n0 n A S = true) (hC : b () = true → conds C) (hA1 : b () = true → impA σ1 A1 A) (hS1 : b () = true → impS σ1 S1 S) (hA2 : b () = false → impA σ2 A2 A) (hS2 : b () = false → impS σ2 S2 S) :
    TreeOK P X fn Q (.br b (.need C (.stuck ⟨k, A1, S1, n1⟩)) (.stuck ⟨k, A2, S2, n2⟩)) :=
  ⟨fun hb => ⟨hC hb, run_mv σ1 hk h hm1 (hA1 hb) (hS1 hb)⟩, fun hb => run_mv σ2 hk h hm2 (hA2 hb) (hS2 hb)⟩
end Go.Abs
/- THE ROW: an argument that can be read as data, as a word of a shape; and what a law's row asks behind the call. -/
set_option linter.unusedVariables false
set_option linter.unusedSimpArgs false
namespace Go.Abs
variable {P : Program} {G : Nat → PV}

/-- All of memory. -/
def memOf (W : World) : Mem := fun b i => W.cell? ⟨b, i, none⟩
def Sh.cells : Sh → Nat
  | .int _ => 1
  | .bool => 1
  | .str => 1
  | .arrI _ n => n
  | .arrB n => n
  | .arrS n => n
  | .nil => 0
  | .cons a b => a.cells + b.cells
  | .agg a => a.cells
  | .slice _ _ => 1
  | .fn _ => 1
  | .eptr _ _ => 1
  | .fnv _ _ => 1
/-- Is a type of the shape? (A struct's fields from some place on: the second kind.) -/
def TS (P : Program) : Sh → Sum TypeId (Nat × List Field) → Prop
  | .int k, .inl t => P.underlying t = some (.int k)
  | .bool, .inl t => P.underlying t = some .bool
  | .str, .inl t => P.underlying t = some .string
  | .arrI k n, .inl t => ∃ e, P.underlying t = some (.array n e) ∧ P.underlying e = some (.int k) ∧ P.cellsOf e = 1 ∧ P.cellsOf t = n
  | .arrB n, .inl t => ∃ e, P.underlying t = some (.array n e) ∧ P.underlying e = some .bool ∧ P.cellsOf e = 1 ∧ P.cellsOf t = n
  | .arrS n, .inl t => ∃ e, P.underlying t = some (.array n e) ∧ P.underlying e = some .string ∧ P.cellsOf e = 1 ∧ P.cellsOf t = n
  | .agg a, .inl t => ∃ fs, P.underlying t = some (.struct fs) ∧ P.cellsOf t = a.cells ∧ TS P a (.inr (0, fs.toList))
  | .nil, .inr (_, []) => True
  | .cons x r, .inr (off, f :: fs) => f.offset = off ∧ P.cellsOf f.type = x.cells ∧ TS P x (.inl f.type) ∧ TS P r (.inr (off + x.cells, fs))
  | .slice esz a, .inl t => ∃ e, P.underlying t = some (.slice e) ∧ P.cellsOf e = esz ∧ 0 < esz ∧ TS P a (.inl e)
  | _, _ => False
def allL {α : Type} (p : α → Prop) (l : List α) : Prop := ∀ (i : Nat) (x : α), l[i]? = some x → p x
/-- What is known of what stands in it. -/
def Sh.okV : (a : Sh) → a.val → Prop
  | .int k, n => (Lit.int k n).wf = true
  | .bool, _ => True
  | .str, s => s.size ≤ maxLen
  | .arrI k n, l => List.length (α := Int) l = n ∧ allL (α := Int) (fun x => (Lit.int k x).wf = true) l
  | .arrB n, l => List.length (α := Bool) l = n
  | .arrS n, l => List.length (α := ByteArray) l = n ∧ allL (α := ByteArray) (fun x => x.size ≤ maxLen) l
  | .nil, _ => True
  | .cons a b, x => a.okV x.1 ∧ b.okV x.2
  | .agg a, x => a.okV x
  | .slice _ a, l => List.length (α := a.val) l ≤ maxLen ∧ allL (α := a.val) (fun x => a.okV x) l
  | .fn _, _ => True
  | .eptr _ _, _ => True
  | .fnv _ _, _ => True

theorem one_elem {α : Type} (cs : List Value) (n : Nat) (hn : cs.length = n) (R : Value → α → Prop) (h : ∀ i, i < n → ∃ x v, (cs.drop (i * 1)).take 1 = [v] ∧ R v x) : ∃ l : List α, l.length = n ∧ ∀ (i : Nat) (v : Value), cs[i]? = some v → ∃ x : α, l[i]? = some x ∧ R v x := by
  induction cs generalizing n with
  | nil => exact ⟨[], by simpa using hn, fun i v hv => by simp at hv⟩
  | cons c cs ih =>
    simp only [List.length_cons] at hn
    obtain ⟨x, v, h1, h2⟩ := h 0 (by omega)
    simp only [Nat.zero_mul, List.drop_zero, List.take_succ_cons, List.take_zero, List.cons.injEq, and_true] at h1
    subst h1
    obtain ⟨l, hl, hl2⟩ := ih (n - 1) (by omega) fun i hi => by
      obtain ⟨x, v, h1, h2⟩ := h (i + 1) (by omega)
      refine ⟨x, v, ?_, h2⟩
      simpa using h1
    refine ⟨x :: l, by simp [hl]; omega, fun i v hv => ?_⟩
    cases i with
    | zero => simp only [List.getElem?_cons_zero, Option.some.injEq] at hv ⊢; subst hv; exact ⟨x, rfl, h2⟩
    | succ i => simpa using hl2 i v (by simpa using hv)
theorem map_of_each {α : Type} {cs : List Value} {l : List α} (g : α → Value) (hl : l.length = cs.length) (h : ∀ (i : Nat) (v : Value), cs[i]? = some v → ∃ x : α, l[i]? = some x ∧ v = g x) : cs = l.map g := by
  apply List.ext_getElem?
  intro i
  rw [List.getElem?_map]
  cases hc : cs[i]? with
  | none => rw [List.getElem?_eq_none (by rw [hl]; exact List.getElem?_eq_none_iff.1 hc)]; rfl
  | some v => obtain ⟨x, hx, rfl⟩ := h i v hc; rw [hx]; rfl

section
variable {H : Type} {enc : TypeId × Value → H} {W : World} {base : Nat} {sp : Nat → Bool} {held : Bool}

theorem open_sh : ∀ (a : Sh) (x : Sum TypeId (Nat × List Field)), TS P a x → (match x with
    | .inl t => ∀ (fuel : Nat) (cs : List Value) (y : DataW H × List MemPlace), DataW.trod enc P W base sp held fuel t cs = some y → ∃ v : a.val, a.okV v ∧ ∀ ρ, rel (memOf W) (a.mk fun _ => v) ρ .cells cs
    | .inr (off, fs) => ∀ (cs : List Value), (∀ (i : Nat) (f : Field), fs[i]? = some f → ∃ fuel y, DataW.trod enc P W base sp held fuel f.type ((cs.drop f.offset).take (P.cellsOf f.type)) = some y) → ∃ v : a.val, a.okV v ∧ ∀ ρ, rel (memOf W) (a.mk fun _ => v) ρ .cells ((cs.drop off).take a.cells)) := by
  intro a
  induction a with
  | int k =>
    intro x hT
    cases x with
    | inr y => exact hT.elim
    | inl t =>
      intro fuel cs y h
      obtain ⟨n, rfl, _, hw⟩ := DataW.trod_int hT h
      exact ⟨n, hw, fun ρ => ⟨by simp, rfl⟩⟩
  | bool =>
    intro x hT
    cases x with
    | inr y => exact hT.elim
    | inl t =>
      intro fuel cs y h
      obtain ⟨n, rfl, _⟩ := DataW.trod_bool hT h
      exact ⟨n, trivial, fun ρ => ⟨by simp, rfl⟩⟩
  | str =>
    intro x hT
    cases x with
    | inr y => exact hT.elim
    | inl t =>
      intro fuel cs y h
      obtain ⟨n, rfl, _, hw⟩ := DataW.trod_string hT h
      exact ⟨n, hw, fun ρ => ⟨by simp, rfl⟩⟩
  | arrI k n =>
    intro x hT
    cases x with
    | inr y => exact hT.elim
    | inl t =>
      obtain ⟨e, h1, h2, h3, h4⟩ := hT
      intro fuel cs y h
      obtain ⟨xs, m, _, _, hl, hxs, hx⟩ := DataW.trod_array h1 h
      rw [h3] at hx
      obtain ⟨l, hll, hl2⟩ := one_elem (α := Int) cs n (by omega) (fun v z => v = .int k z ∧ (Lit.int k z).wf = true) fun i hi => by
        obtain ⟨z, q1, _, q2⟩ := DataW.trod_int h2 ((hx i hi).trans (List.getElem?_eq_getElem (by omega)))
        exact ⟨z, _, q1, rfl, q2⟩
      refine ⟨l, ⟨hll, fun i z hz => ?_⟩, fun ρ => ⟨hll, .inl ⟨rfl, map_of_each (.int k) (hll.trans (by omega)) fun i v hv => ?_⟩⟩⟩
      · obtain ⟨v, hv⟩ : ∃ v, cs[i]? = some v := ⟨cs[i]'(by have := (List.getElem?_eq_some_iff.1 hz).1; omega), List.getElem?_eq_getElem _⟩
        obtain ⟨x, hx, _, hw⟩ := hl2 i v hv
        have hz : l[i]? = some z := hz
        rw [hx] at hz; cases hz; exact hw
      · obtain ⟨x, hx, e, _⟩ := hl2 i v hv
        exact ⟨x, hx, e⟩
  | arrB n =>
    intro x hT
    cases x with
    | inr y => exact hT.elim
    | inl t =>
      obtain ⟨e, h1, h2, h3, h4⟩ := hT
      intro fuel cs y h
      obtain ⟨xs, m, _, _, hl, hxs, hx⟩ := DataW.trod_array h1 h
      rw [h3] at hx
      obtain ⟨l, hll, hl2⟩ := one_elem (α := Bool) cs n (by omega) (fun v z => v = .bool z) fun i hi => by
        obtain ⟨z, q1, _⟩ := DataW.trod_bool h2 ((hx i hi).trans (List.getElem?_eq_getElem (by omega)))
        exact ⟨z, _, q1, rfl⟩
      exact ⟨l, hll, fun ρ => ⟨hll, .inl ⟨rfl, map_of_each .bool (hll.trans (by omega)) hl2⟩⟩⟩
  | arrS n =>
    intro x hT
    cases x with
    | inr y => exact hT.elim
    | inl t =>
      obtain ⟨e, h1, h2, h3, h4⟩ := hT
      intro fuel cs y h
      obtain ⟨xs, m, _, _, hl, hxs, hx⟩ := DataW.trod_array h1 h
      rw [h3] at hx
      obtain ⟨l, hll, hl2⟩ := one_elem (α := ByteArray) cs n (by omega) (fun v z => v = .string z ∧ z.size ≤ maxLen) fun i hi => by
        obtain ⟨z, q1, _, q2⟩ := DataW.trod_string h2 ((hx i hi).trans (List.getElem?_eq_getElem (by omega)))
        exact ⟨z, _, q1, rfl, q2⟩
      refine ⟨l, ⟨hll, fun i z hz => ?_⟩, fun ρ => ⟨hll, .inl ⟨rfl, map_of_each .string (hll.trans (by omega)) fun i v hv => ?_⟩⟩⟩
      · obtain ⟨v, hv⟩ : ∃ v, cs[i]? = some v := ⟨cs[i]'(by have := (List.getElem?_eq_some_iff.1 hz).1; omega), List.getElem?_eq_getElem _⟩
        obtain ⟨x, hx, _, hw⟩ := hl2 i v hv
        have hz : l[i]? = some z := hz
        rw [hx] at hz; cases hz; exact hw
      · obtain ⟨x, hx, e, _⟩ := hl2 i v hv
        exact ⟨x, hx, e⟩
  | nil =>
    intro x hT
    cases x with
    | inl t => exact hT.elim
    | inr y =>
      obtain ⟨off, fs⟩ := y
      intro cs h
      exact ⟨(), trivial, fun ρ => ⟨by simp, by simp [Sh.cells]⟩⟩
  | cons x r ih1 ih2 =>
    intro y hT
    cases y with
    | inl t => exact hT.elim
    | inr y =>
      obtain ⟨off, fs⟩ := y
      cases fs with
      | nil => exact hT.elim
      | cons f fs =>
        obtain ⟨h1, h2, h3, h4⟩ := hT
        intro cs h
        obtain ⟨fuel, z, hz⟩ := h 0 f rfl
        obtain ⟨v1, w1, r1⟩ := ih1 _ h3 fuel _ z hz
        obtain ⟨v2, w2, r2⟩ := ih2 _ h4 cs fun i g hg => h (i + 1) g (by simpa using hg)
        refine ⟨(v1, v2), ⟨w1, w2⟩, fun ρ => .inl ⟨rfl, _, _, ?_, r1 ρ, r2 ρ⟩⟩
        rw [h1, h2]
        simp only [Sh.cells]
        rw [List.take_add, List.drop_drop]
  | agg a ih =>
    intro x hT
    cases x with
    | inr y => exact hT.elim
    | inl t =>
      obtain ⟨fs, h1, h2, h3⟩ := hT
      intro fuel cs y h
      obtain ⟨xs, n, _, _, hl, hxs, hx⟩ := DataW.trod_struct h1 h
      obtain ⟨v, w, r⟩ := ih _ h3 cs fun i f hf => by
        have hi : i < fs.size := by have := (List.getElem?_eq_some_iff.1 hf).1; simpa using this
        exact ⟨n, _, (hx i f (by simpa using hf)).trans (List.getElem?_eq_getElem (by omega))⟩
      refine ⟨v, w, fun ρ => .inl ⟨rfl, ?_⟩⟩
      have := r ρ
      rwa [List.drop_zero, List.take_of_length_le (by omega)] at this
  | slice esz a ih =>
    intro x hT
    cases x with
    | inr y => exact hT.elim
    | inl t =>
      obtain ⟨e, h1, h2, h3, h4⟩ := hT
      intro fuel cs y h
      rcases DataW.trod_slice h1 h with ⟨rfl, _⟩ | ⟨ad, len, cap, elems, rest, n, _, rfl, _, hb, hlc, hcm, hel, he, _⟩
      · exact ⟨([] : List a.val), ⟨Nat.zero_le _, fun i x hx => by simp at hx⟩, fun ρ => ⟨none, 0, 0, ⟨by simp, rfl⟩, rfl, Nat.le_refl _, Nat.zero_le _, fun id h => (by cases h), fun h => (by omega)⟩⟩
      · rw [h2] at he
        have key : ∀ i, i < len → ∃ v : a.val, a.okV v ∧ ∃ c : List Value, c.length = esz ∧ (∀ q, q < esz → W.cell? ((ad.add (i * esz)).add q) = c[q]?) ∧ ∀ ρ, rel (memOf W) (a.mk fun _ => v) ρ .cells c := by
          intro i hi
          have hq := he i hi
          rw [List.getElem?_eq_getElem (by omega), Option.bind_eq_some_iff] at hq
          obtain ⟨c, k1, k2⟩ := hq
          obtain ⟨_, k3, k4⟩ := World.cells?_some k1
          obtain ⟨v, w, r⟩ := ih _ h4 n c _ k2
          exact ⟨v, w, c, k3, k4, r⟩
        have hlist : ∀ m, m ≤ len → ∃ l : List a.val, l.length = m ∧ ∀ i (hi : i < m), ∃ v, l[i]? = some v ∧ a.okV v ∧ ∃ c : List Value, c.length = esz ∧ (∀ q, q < esz → W.cell? ((ad.add (i * esz)).add q) = c[q]?) ∧ ∀ ρ, rel (memOf W) (a.mk fun _ => v) ρ .cells c := by
          intro m
          induction m with
          | zero => intro _; exact ⟨[], rfl, fun i hi => by omega⟩
          | succ m ihm =>
            intro hm
            obtain ⟨l, hl, hl2⟩ := ihm (by omega)
            obtain ⟨v, hv⟩ := key m (by omega)
            refine ⟨l ++ [v], by simp [hl], fun i hi => ?_⟩
            by_cases e : i = m
            · subst e
              exact ⟨v, by rw [List.getElem?_append_right (by omega)]; simp [hl], hv⟩
            · obtain ⟨v', q1, q2⟩ := hl2 i (by omega)
              exact ⟨v', by rw [List.getElem?_append_left (by omega)]; exact q1, q2⟩
        obtain ⟨l, hl, hl2⟩ := hlist len (Nat.le_refl _)
        refine ⟨l, ⟨by show l.length ≤ _; omega, fun i x hx => ?_⟩, fun ρ => ⟨some ad, len, cap, ⟨by simp, rfl⟩, by show (len : Int) = (l.length : Int); omega, hlc, hcm, fun id h => (by cases h), fun hpos => ?_⟩⟩
        · have hx : l[i]? = some x := hx
          obtain ⟨v, q1, q2, _⟩ := hl2 i (by have := (List.getElem?_eq_some_iff.1 hx).1; omega)
          rw [hx] at q1; cases q1; exact q2
        · obtain ⟨v0, _, _, c0, l0, q0, _⟩ := hl2 0 hpos
          have hspot : ad.spot = none := by
            have := q0 0 h3
            rw [List.getElem?_eq_getElem (by omega)] at this
            have e : (ad.add (0 * esz)).add 0 = ad := by simp [Addr.add]
            rw [e] at this
            unfold World.cell? at this
            split at this
            · split at this
              · cases this
              · rename_i hs; simpa using hs
            · cases this
          have had : ad = ⟨ad.block, ad.off, none⟩ := by cases ad; simp at hspot; subst hspot; rfl
          refine ⟨ad.block, ad.off, by rw [← had], fun j hj => ?_⟩
          obtain ⟨v, q1, q2, c, q3, q4, q5⟩ := hl2 j hj
          refine ⟨c, q3, ?_, fun q hq => ?_⟩
          · have e : List.getD (α := a.val) l ((j : Nat) : Int).toNat a.dflt = v := by
              rw [Int.toNat_natCast, List.getD_eq_getElem?_getD, q1]; rfl
            have := q5 fun _ => none
            rw [← e] at this
            exact this
          · rw [← q4 q hq]
            have e : (ad.add (j * esz)).add q = ⟨ad.block, ad.off + j * esz + q, none⟩ := by
              rw [had]; unfold Addr.add; by_cases e1 : j * esz = 0 <;> by_cases e2 : q = 0 <;> simp [e1, e2]
            rw [e]; rfl
  | fn f => intro x hT; cases x <;> exact hT.elim
  | eptr esz a ih => intro x hT; cases x <;> exact hT.elim
  | fnv f a ih => intro x hT; cases x <;> exact hT.elim
end

/-! ### What is asked behind the call -/
section
open Go.ChangeShapes Go.WideShapes Go.RowKit
variable {H : Type} {enc : TypeId × Value → H}

/-- Can each be read, and is it a row of the table? -/
def argsRowed (P : Program) (ts : List TypeId) : Bool := ts.all fun t => P.readableRec t && decide (t < P.types.size)
theorem trodAll_stays (hl : laidOutB P = true) {W W' : World} (hb : Below W.heap.size W W') {sp' : Nat → Bool} : ∀ {ts : List TypeId} {vs : List Value} {ds : List (DataW H)} {ps : List MemPlace}, argsRowed P ts = true →
    DataW.TrodAll enc P W 0 (fun _ => true) true ts vs ds ps → (∀ p ∈ ps, p.block < W.heap.size) → (∀ p ∈ ps, sp' p.block = true) → DataW.TrodAll enc P W' 0 sp' true ts vs ds ps
  | [], vs, ds, ps, _, h, _, _ => by
    obtain ⟨rfl, rfl, rfl⟩ := trodAll_nil h
    exact rfl
  | t :: ts, vs, ds, ps, ha, h, hlt, hsp => by
    obtain ⟨v, vs1, d, ds1, a, b, rfl, rfl, rfl, h1, h2⟩ := trodAll_cons h
    simp only [argsRowed, List.all_cons, Bool.and_eq_true, decide_eq_true_eq] at ha
    refine ⟨a, b, WideElems.Trod_stays hl ha.1.1 ha.1.2 h1 (fun p hp => hb.same (hlt p (List.mem_append_left _ hp))) (fun p hp => hsp p (List.mem_append_left _ hp)), ?_, rfl⟩
    exact trodAll_stays hl hb (by simpa [argsRowed] using ha.2) h2 (fun p hp => hlt p (List.mem_append_right _ hp)) (fun p hp => hsp p (List.mem_append_right _ hp))

/-- A law's 'post': it answers true, and of what was there nothing has turned. -/
theorem law_post {f : Func} {s : ChangeSpec} {apart fresh handsOn again : Bool} {W W' : World} {args : Array Value} {ds gs : List (DataW H)} {before : List MemPlace}
    (hW : DataW.Whole enc P f.params.toList s.vars apart W args.toList ds gs before) (hv : s.vars = []) (hl : laidOutB P = true) (ha : argsRowed P f.params.toList = true)
    (hs : s.fn H ds = { results := [.lit (.bool true)], args := ds }) {tb : TypeId} (hr : f.resultTypes = #[tb]) (hb : P.underlying tb = some .bool) (hB : Below W.heap.size W W') :
    s.post enc P f apart fresh handsOn again W args (.bool true) W' := by
  have hW' := hW
  obtain ⟨p, q, hA, hV, rfl, hz, hn⟩ := hW
  rw [hv] at hV
  obtain ⟨rfl, rfl⟩ := trodVars_none hV
  have hs : s.fn H (ds ++ []) = { results := [.lit (.bool true)], args := ds } := by rw [List.append_nil]; exact hs
  have hlt : ∀ x ∈ p, x.block < W.heap.size := fun x hx => hW'.lt x (by simpa using hx)
  have hargs : ∀ sp : Nat → Bool, (∀ x ∈ p, sp x.block = true) → DataW.TrodAll enc P W' 0 sp true f.params.toList args.toList ds p := fun sp hsp => trodAll_stays hl hB ha hA hlt hsp
  have hres : ∀ (b : Nat) (sp : Nat → Bool) (hd : Bool), DataW.TrodAll enc P W' b sp hd f.resultTypes.toList ((Value.bool true).resultList f.resultTypes.size) [.lit (.bool true)] [] := fun b sp hd => by
    rw [hr]; exact trodAll_cons_mk (shut_bool hb _) trodAll_mk0
  have hvars : ∀ sp : Nat → Bool, DataW.TrodVars enc P W' sp s.vars ([] : List (DataW H)) [] := fun sp => by rw [hv]; exact rfl
  refine ⟨ds, [], p ++ [], [], p, [], hW', by rw [hs]; exact hres _ _ _, by rw [hs]; exact hargs _ (fun x hx => by simpa using hlt x hx), by rw [hs]; exact hvars _, World.keptBut_mono (fun x hx => ⟨hx, .inr (by simpa using hx)⟩) (hB.frame _), fun _ => ?_⟩
  refine ⟨ok_one hr rfl (okWide_bool_mk hb _), _, _, ([] ++ p) ++ [], ⟨[] ++ p, [], trodAll_append (hargs _ (fun _ _ => rfl)) (hres _ _ _), hvars _, rfl, ?_, ?_⟩, ?_⟩
  · intro b off hp
    rw [hB.frozen (hlt _ (by simpa using hp))]
    exact hz b off (by simpa using hp)
  · intro hap
    simpa using hn hap
  · intro x hx _
    simpa using hx

/-- A law's contract, out of what its walk says. -/
theorem law_calls {f : Nat} {args : PV} {W : World} {vs : List Value} (hp : PFun P G f args .tt) (hG : GOK G (memOf W)) (hr : rel (memOf W) args noNames .vals vs) :
    Calls P f vs.toArray W fun e W' => e = .returned (.bool true) ∧ Below W.heap.size W W' := by
  have hI : Inv (memOf W) noNames none0 W := ⟨fun b i v h => h, fun id o h => (by cases h), fun id id' o o' h => (by cases h)⟩
  refine (hp.2 _ _ _ hG hI hr).mono ?_
  rintro e W' ⟨M', ρ', v, S', a', rfl, h1, h2⟩
  obtain ⟨_, h2⟩ := h2
  have hv : v = .bool true := by simpa using h2
  subst hv
  refine ⟨rfl, h1.os, h1.tape, h1.output, h1.size, fun b hb => h1.heap b hb ?_⟩
  rintro ⟨id, o, ho, _⟩
  simp [Store.get] at ho
end
end Go.Abs
