/- THE LOGIC OF ABSTRACT VALUES, a part of it: what the walks of this claim stand on. -/
import Derived.Test.YtdikfhjpnfffnacDoorGc
import Derived.Lib.Join
import Derived.Lib.ItoaLen
import Derived.Carry
import Derived.OpenShut
import Derived.RowKit
import Derived.Deep.DeepHandedRow
import Derived.Lib.LaidTab
set_option maxRecDepth 2000
set_option linter.unusedVariables false
set_option linter.unusedSimpArgs false
/- THE LEAST BIT: plain facts. -/
set_option linter.unusedVariables false
set_option linter.unusedSimpArgs false
namespace Go.Abs
/-- The first place of all. -/
def firstOf (p : Nat → Bool) : Nat → Option Nat
  | 0 => none
  | n + 1 => match firstOf p n with
    | some i => some i
    | none => if p n then some n else none
theorem firstOf_none {p : Nat → Bool} : ∀ {n : Nat}, firstOf p n = none ↔ ∀ i, i < n → p i = false
  | 0 => ⟨fun _ i h => (by omega), fun _ => rfl⟩
  | n + 1 => by
    have ih := firstOf_none (p := p) (n := n)
    simp only [firstOf]
    cases h : firstOf p n with
    | some m =>
      refine ⟨fun h' => by simp at h', fun h' => ?_⟩
      have := ih.2 fun i hi => h' i (by omega)
      rw [h] at this; cases this
    | none =>
      have h1 := ih.1 h
      cases hp : p n with
      | false => exact ⟨fun _ i hi => if e : i = n then e ▸ hp else h1 i (by omega), fun _ => by simp⟩
      | true => exact ⟨fun h' => by simp at h', fun h' => by have := h' n (by omega); rw [hp] at this; cases this⟩
theorem firstOf_some {p : Nat → Bool} : ∀ {n m : Nat}, firstOf p n = some m ↔ m < n ∧ p m = true ∧ ∀ i, i < m → p i = false
  | 0, m => ⟨fun h => (by cases h), fun h => (by omega)⟩
  | n + 1, m => by
    have ih := firstOf_some (p := p) (n := n) (m := m)
    simp only [firstOf]
    cases h : firstOf p n with
    | some k =>
      rw [h] at ih
      simp only [Option.some.injEq] at ih ⊢
      have hk := (firstOf_some (p := p) (n := n) (m := k)).1 h
      refine ⟨fun e => ?_, fun e => ?_⟩
      · subst e; exact ⟨by omega, hk.2.1, hk.2.2⟩
      · by_cases h1 : k < m
        · have := e.2.2 k h1; rw [hk.2.1] at this; cases this
        · by_cases h2 : m < k
          · have := hk.2.2 m h2; rw [e.2.1] at this; cases this
          · omega
    | none =>
      have h1 := firstOf_none.1 h
      cases hp : p n with
      | false =>
        refine ⟨fun h' => by simp at h', fun e => ?_⟩
        by_cases hm : m = n
        · subst hm; rw [hp] at e; cases e.2.1
        · have := h1 m (by omega); rw [e.2.1] at this; cases this
      | true =>
        refine ⟨fun h' => ?_, fun e => ?_⟩
        · simp only [if_true, Option.some.injEq] at h'
          subst h'
          exact ⟨by omega, hp, h1⟩
        · by_cases hm : m = n
          · subst hm; simp
          · have := h1 m (by omega); rw [e.2.1] at this; cases this

theorem odd_bit (r i : Nat) : (2 * r + 1).testBit i = (decide (i = 0) || (2 * r).testBit i) := by
  cases i with
  | zero => simp [Nat.testBit_zero]
  | succ i => rw [Nat.testBit_succ, Nat.testBit_succ, show (2 * r + 1) / 2 = 2 * r / 2 by omega]; simp
theorem pred_div {b s : Nat} (hb : 1 ≤ b) : (b * (s + 1) - 1) / b = s := by
  rw [Nat.mul_add, Nat.mul_one, Nat.add_sub_assoc hb, Nat.mul_add_div (by omega), Nat.div_eq_of_lt (by omega), Nat.add_zero]
theorem low_bit {u k : Nat} (h : u < 2 ^ 64) (hk : u.testBit k = true) (hl : ∀ j, j < k → u.testBit j = false) : u &&& (2 ^ 64 - u) = 2 ^ k := by
  have hk64 : k < 64 := by
    by_cases h' : k < 64
    · exact h'
    · rw [Nat.testBit_lt_two_pow (Nat.lt_of_lt_of_le h (Nat.pow_le_pow_right (by omega) (by omega)))] at hk; cases hk
  have hm : u % 2 ^ k = 0 := by
    apply Nat.eq_of_testBit_eq
    intro j
    rw [Nat.testBit_mod_two_pow, Nat.zero_testBit]
    by_cases hj : j < k
    · simp [hl j hj]
    · simp [hj]
  have hq : (u / 2 ^ k) % 2 = 1 := by
    have := hk
    rw [Nat.testBit_eq_decide_div_mod_eq] at this
    simpa using this
  obtain ⟨r, hr⟩ : ∃ r, u / 2 ^ k = 2 * r + 1 := ⟨u / 2 ^ k / 2, by omega⟩
  have hp : 1 ≤ 2 ^ k := Nat.one_le_two_pow
  have hu : u = 2 ^ k * (2 * r + 1) := by rw [← hr]; exact (Nat.mul_div_cancel' (Nat.dvd_of_mod_eq_zero hm)).symm
  have hu1 : (u - 1) / 2 ^ k = 2 * r := by rw [hu]; exact pred_div hp
  have hpos : 0 < u := by rw [hu]; exact Nat.mul_pos hp (by omega)
  apply Nat.eq_of_testBit_eq
  intro j
  rw [Nat.testBit_and, show 2 ^ 64 - u = 2 ^ 64 - ((u - 1) + 1) by omega, Nat.testBit_two_pow_sub_succ (by omega), Nat.testBit_two_pow]
  by_cases hj : j < k
  · simp only [hl j hj, Bool.false_and]
    symm; simp only [decide_eq_false_iff_not]; omega
  · obtain ⟨i, rfl⟩ : ∃ i, j = k + i := ⟨j - k, by omega⟩
    have e1 : u.testBit (k + i) = (u / 2 ^ k).testBit i := by rw [Nat.testBit_div_two_pow, Nat.add_comm]
    have e2 : (u - 1).testBit (k + i) = ((u - 1) / 2 ^ k).testBit i := by rw [Nat.testBit_div_two_pow, Nat.add_comm]
    rw [e1, e2, hr, hu1, odd_bit]
    cases i with
    | zero => simp [hk64, Nat.testBit_zero]
    | succ i => cases (2 * r).testBit (i + 1) <;> simp
theorem cnt_low {k : Nat} : ∀ {n : Nat}, k ≤ n → cnt (fun i => decide (i < k)) n = k
  | 0, h => by simp only [cnt]; omega
  | n + 1, h => by
    simp only [cnt]
    by_cases hk : k ≤ n
    · rw [cnt_low hk]; simp; omega
    · have : k = n + 1 := by omega
      subst this
      rw [cnt_ext (q := fun i => decide (i < n)) fun i hi => by simp; omega, cnt_low (Nat.le_refl n)]
      simp
/-- The place of the least bit of a word, as it is reckoned. -/
def lowI (u : Int) : Int := IntKind.u64.wrap (bitAnd .u64 u (IntKind.u64.wrap (0 - u)) - 1)
theorem lowI_eq {u k : Nat} (h : u < 2 ^ 64) (hk : u.testBit k = true) (hl : ∀ j, j < k → u.testBit j = false) : lowI (u : Int) = ((2 ^ k - 1 : Nat) : Int) ∧ k < 64 := by
  have hk64 : k < 64 := by
    by_cases h' : k < 64
    · exact h'
    · rw [Nat.testBit_lt_two_pow (Nat.lt_of_lt_of_le h (Nat.pow_le_pow_right (by omega) (by omega)))] at hk; cases hk
  have hpos : 0 < u := by
    rcases Nat.eq_zero_or_pos u with e | e
    · subst e; simp at hk
    · exact e
  have e : IntKind.u64.wrap (0 - (u : Int)) = ((2 ^ 64 - u : Nat) : Int) := by
    show (0 - (u : Int)) % 18446744073709551616 = _
    omega
  have hp : 2 ^ k ≤ 2 ^ 63 := Nat.pow_le_pow_right (by omega) (by omega)
  have h1 : 1 ≤ 2 ^ k := Nat.one_le_two_pow
  refine ⟨?_, hk64⟩
  unfold lowI
  rw [e, and_nat h (by omega), low_bit h hk hl, show ((2 ^ k : Nat) : Int) - 1 = ((2 ^ k - 1 : Nat) : Int) by omega, u64_wrap (by omega)]
theorem cnt_pow {k : Nat} (h : k ≤ 64) : cnt (2 ^ k - 1).testBit 64 = k := by
  rw [cnt_ext (q := fun i => decide (i < k)) fun i _ => Nat.testBit_two_pow_sub_one k i, cnt_low h]

/-- The end of a run. -/
def runF (p : Nat → Bool) : Nat → Nat → Nat
  | 0, m => m
  | k + 1, m => if m + 1 < 256 ∧ p (m + 1) = true then runF p k (m + 1) else m
def runEnd (p : Nat → Bool) (m : Nat) : Nat := runF p (255 - m) m
theorem runEnd_on {p : Nat → Bool} {m : Nat} (h : m + 1 < 256) (hp : p (m + 1) = true) : runEnd p m = runEnd p (m + 1) := by
  unfold runEnd
  rw [show 255 - m = (255 - (m + 1)) + 1 by omega, runF, if_pos ⟨h, hp⟩]
theorem runEnd_stop {p : Nat → Bool} {m : Nat} (h : ¬ (m + 1 < 256 ∧ p (m + 1) = true)) : runEnd p m = m := by
  unfold runEnd
  cases 255 - m with
  | zero => rfl
  | succ k => rw [runF, if_neg h]
end Go.Abs
/- THE TEXT OF A SET: what it is, plainly. -/
set_option linter.unusedVariables false
set_option linter.unusedSimpArgs false
namespace Go.Abs
def itoaB (n : Int) : ByteArray := ⟨(Lib.itoa n).toArray⟩
def joinB (xs : List ByteArray) (sep : ByteArray) : ByteArray := ⟨(Lib.join (xs.map (·.data.toList)) sep.data.toList).toArray⟩
def inRange (a b : Int) (i : Nat) : Bool := decide (a ≤ (i : Int)) && decide ((i : Int) ≤ b)
theorem cnt_lt {p q : Nat → Bool} : ∀ {n m : Nat}, (∀ i, i < n → p i = true → q i = true) → m < n → q m = true → p m = false → cnt p n < cnt q n
  | 0, m, _, h, _, _ => by omega
  | n + 1, m, hs, hm, hq, hp => by
    have hle : ∀ k, k ≤ n + 1 → cnt p k ≤ cnt q k := by
      intro k
      induction k with
      | zero => intro _; exact Nat.le_refl _
      | succ k ih =>
        intro hk
        have h1 := ih (by omega)
        have h2 := hs k (by omega)
        simp only [cnt]
        cases hpk : p k
        · simp only [Bool.false_eq_true, if_false]; split <;> omega
        · rw [h2 hpk]; simp only [if_true]; omega
    by_cases e : m = n
    · subst e
      have := hle m (by omega)
      simp only [cnt, hp, hq, if_true, Bool.false_eq_true, if_false]
      omega
    · have := cnt_lt (n := n) (m := m) (fun i hi => hs i (by omega)) (by omega) hq hp
      have h2 := hs n (by omega)
      simp only [cnt]
      cases hpk : p n
      · simp only [Bool.false_eq_true, if_false]; split <;> omega
      · rw [h2 hpk]; simp only [if_true]; omega
theorem runF_le (p : Nat → Bool) : ∀ k m, m ≤ runF p k m
  | 0, m => Nat.le_refl _
  | k + 1, m => by
    rw [runF]
    split
    · have := runF_le p k (m + 1); omega
    · exact Nat.le_refl _
theorem runEnd_ge (p : Nat → Bool) (m : Nat) : m ≤ runEnd p m := runF_le p _ m
theorem runF_lt (p : Nat → Bool) : ∀ k m, m < 256 → runF p k m < 256
  | 0, m, h => h
  | k + 1, m, h => by
    rw [runF]
    split
    · rename_i h'; exact runF_lt p k (m + 1) h'.1
    · exact h
theorem runEnd_lt {p : Nat → Bool} {m : Nat} (h : m < 256) : runEnd p m < 256 := runF_lt p _ m h
theorem runF_in (p : Nat → Bool) : ∀ k m i, m < i → i ≤ runF p k m → p i = true
  | 0, m, i, h, h' => by simp only [runF] at h'; omega
  | k + 1, m, i, h, h' => by
    rw [runF] at h'
    split at h'
    · rename_i hc
      by_cases e : i = m + 1
      · subst e; exact hc.2
      · exact runF_in p k (m + 1) i (by omega) h'
    · omega
/-- A run's text. -/
def pieceB (m e : Nat) : ByteArray := bif decide ((e : Int) > m) then itoaB m ++ (⟨#[45]⟩ ++ itoaB e) else itoaB m
def cutRun (l : List Int) (m : Nat) : List Int := setOf fun i => bitAt l i && !bitAt (setOf (inRange m (runEnd (bitAt l) m))) i
theorem cutRun_bit (l : List Int) (m : Nat) {i : Nat} (hi : i < 256) : bitAt (cutRun l m) i = (bitAt l i && !inRange m (runEnd (bitAt l) m) i) := by
  unfold cutRun
  rw [bitAt_setOf hi, bitAt_setOf hi]
theorem cutRun_lt {l : List Int} {m : Nat} (h : firstOf (bitAt l) 256 = some m) : cnt (bitAt (cutRun l m)) 256 < cnt (bitAt l) 256 := by
  obtain ⟨h1, h2, _⟩ := firstOf_some.1 h
  refine cnt_lt (m := m) (fun i hi hp => ?_) h1 h2 ?_
  · rw [cutRun_bit l m hi, Bool.and_eq_true] at hp; exact hp.1
  · have := runEnd_ge (bitAt l) m
    rw [cutRun_bit l m h1, h2]
    simp only [inRange]
    simp
    omega
def first256 (l : List Int) : Option Nat := firstOf (bitAt l) 256
theorem first256_eq {l : List Int} : first256 l = firstOf (bitAt l) 256 := rfl
attribute [local irreducible] first256
/-- The texts of all runs. -/
def pcs : Nat → List Int → List ByteArray
  | 0, _ => []
  | k + 1, l => match first256 l with
    | none => []
    | some m => pieceB m (runEnd (bitAt l) m) :: pcs k (cutRun l m)
theorem pcs_none {l : List Int} (h : first256 l = none) (k : Nat) : pcs k l = [] := by
  cases k with
  | zero => rfl
  | succ k => simp only [pcs, h]
theorem pcs_some {l : List Int} {m : Nat} (h : first256 l = some m) (k : Nat) : pcs (k + 1) l = pieceB m (runEnd (bitAt l) m) :: pcs k (cutRun l m) := by
  simp only [pcs, h]
theorem pcs_more : ∀ (k : Nat) (l : List Int), cnt (bitAt l) 256 ≤ k → pcs (k + 1) l = pcs k l
  | 0, l, h => by
    cases hf : first256 l with
    | none => rw [pcs_none hf, pcs_none hf]
    | some m => have := cutRun_lt (l := l) (first256_eq.symm.trans hf); omega
  | k + 1, l, h => by
    cases hf : first256 l with
    | none => rw [pcs_none hf, pcs_none hf]
    | some m =>
      have := cutRun_lt (l := l) (first256_eq.symm.trans hf)
      rw [pcs_some hf, pcs_some hf, pcs_more k _ (by omega)]
theorem pcs_fuel (l : List Int) : ∀ (d : Nat), pcs (cnt (bitAt l) 256 + d) l = pcs (cnt (bitAt l) 256) l
  | 0 => rfl
  | d + 1 => by rw [← Nat.add_assoc, pcs_more _ _ (Nat.le_add_right _ _), pcs_fuel l d]
def pieces (l : List Int) : List ByteArray := pcs (cnt (bitAt l) 256) l
theorem pieces_none {l : List Int} (h : firstOf (bitAt l) 256 = none) : pieces l = [] := pcs_none (first256_eq.trans h) _
theorem pieces_some {l : List Int} {m : Nat} (h : firstOf (bitAt l) 256 = some m) : pieces l = pieceB m (runEnd (bitAt l) m) :: pieces (cutRun l m) := by
  have hlt := cutRun_lt h
  unfold pieces
  obtain ⟨k, hk⟩ : ∃ k, cnt (bitAt l) 256 = k + 1 := ⟨cnt (bitAt l) 256 - 1, by omega⟩
  obtain ⟨d, hd⟩ : ∃ d, k = cnt (bitAt (cutRun l m)) 256 + d := ⟨k - cnt (bitAt (cutRun l m)) 256, by omega⟩
  rw [hk, pcs_some (first256_eq.trans h), hd, pcs_fuel]
theorem bsize (x : ByteArray) : x.data.toList.length = x.size := by rw [Array.length_toList]; rfl
theorem itoaB_size {n : Nat} (h : n < 256) : (itoaB n).size ≤ 21 := by
  have := Lib.itoa_length_le (n : Int) (by omega) (by omega)
  rw [← bsize]; exact this
theorem pieceB_size {m e : Nat} (hm : m < 256) (he : e < 256) : (pieceB m e).size ≤ 43 := by
  have h1 := itoaB_size hm
  have h2 := itoaB_size he
  unfold pieceB
  cases decide ((e : Int) > m)
  · simp only [cond_false]; omega
  · simp only [cond_true, ByteArray.size_append]
    have : (⟨#[45]⟩ : ByteArray).size = 1 := rfl
    omega
theorem lens_le {k : Nat} : ∀ {xs : List ByteArray}, (∀ x ∈ xs, x.size ≤ k) → Lib.lens (xs.map (·.data.toList)) ≤ xs.length * k
  | [], _ => by simp [Lib.lens]
  | x :: xs, h => by
    have ih := lens_le (k := k) (xs := xs) fun y hy => h y (by simp [hy])
    have hx := h x (by simp)
    simp only [Lib.lens, List.map_cons, List.sum_cons, List.length_cons] at ih ⊢
    rw [Nat.add_mul]
    have := bsize x
    omega
theorem joinB_size {k : Nat} {xs : List ByteArray} {sep : ByteArray} (h : ∀ x ∈ xs, x.size ≤ k) : (joinB xs sep).size ≤ xs.length * (k + sep.size) := by
  cases xs with
  | nil => exact Nat.zero_le _
  | cons x xs =>
    have h1 := lens_le (k := k) (xs := xs) fun y hy => h y (by simp [hy])
    have hx := h x (by simp)
    have e1 := bsize x
    have e2 := bsize sep
    have e3 : (joinB (x :: xs) sep).size = (Lib.join ((x :: xs).map (·.data.toList)) sep.data.toList).length := by rw [← bsize]; rfl
    rw [e3, List.map_cons, Lib.join_cons, List.length_append, Lib.joinTail_length, e1, e2, List.length_map, List.length_cons, Nat.add_mul, Nat.mul_add, Nat.mul_comm sep.size]
    omega
/-- A set's text. -/
def textB (l : List Int) : ByteArray := bif decide ((((pieces l).length : Nat) : Int) = 0) then ⟨#[45]⟩ else joinB (pieces l) ⟨#[44]⟩
end Go.Abs
/- SETS BIT BY BIT: plain facts. -/
set_option linter.unusedVariables false
set_option linter.unusedSimpArgs false
namespace Go.Abs
/-- A word without its lowest ones, where the first 'i' of all places are struck. -/
def ofW (p : Nat → Bool) (i w : Nat) : Nat := wd (fun j => p (64 * w + j)) 64 / 2 ^ (min 64 (i - 64 * w))
def ofL (p : Nat → Bool) (i : Nat) : List Int := [((ofW p i 0 : Nat) : Int), ((ofW p i 1 : Nat) : Int), ((ofW p i 2 : Nat) : Int), ((ofW p i 3 : Nat) : Int)]
theorem ofW_lt (p : Nat → Bool) (i w : Nat) : ofW p i w < 2 ^ 64 := Nat.lt_of_le_of_lt (Nat.div_le_self _ _) (wd_lt _ _)
theorem ofL_get {p : Nat → Bool} {i w : Nat} (h : w < 4) : (ofL p i).getD w 0 = ((ofW p i w : Nat) : Int) := by
  have : w = 0 ∨ w = 1 ∨ w = 2 ∨ w = 3 := by omega
  rcases this with rfl | rfl | rfl | rfl <;> rfl
theorem ofL_zero (p : Nat → Bool) : ofL p 0 = setOf p := by
  simp [ofL, ofW, setOf, W]
theorem ofL_full (p : Nat → Bool) : ofL p 256 = [0, 0, 0, 0] := by
  have h : ∀ w, w < 4 → ofW p 256 w = 0 := fun w hw => by
    unfold ofW
    rw [show min 64 (256 - 64 * w) = 64 by omega]
    exact Nat.div_eq_of_lt (wd_lt _ _)
  simp [ofL, h 0, h 1, h 2, h 3]
theorem ofW_other {p : Nat → Bool} {i w : Nat} (h : w ≠ i / 64) : ofW p (i + 1) w = ofW p i w := by
  unfold ofW
  congr 2
  omega
theorem ofW_bit (p : Nat → Bool) (i : Nat) : ofW p i (i / 64) = 2 * ofW p (i + 1) (i / 64) + (if p i then 1 else 0) := by
  have hb := wd_bit (fun j => p (64 * (i / 64) + j)) 64 (i % 64)
  rw [Nat.testBit_eq_decide_div_mod_eq, show 64 * (i / 64) + i % 64 = i by omega] at hb
  simp only [show i % 64 < 64 by omega, decide_true, Bool.true_and] at hb
  unfold ofW
  rw [show min 64 (i - 64 * (i / 64)) = i % 64 by omega, show min 64 (i + 1 - 64 * (i / 64)) = i % 64 + 1 by omega, Nat.pow_succ, ← Nat.div_div_eq_div_mul]
  generalize wd (fun j => p (64 * (i / 64) + j)) 64 / 2 ^ (i % 64) = x at *
  cases hp : p i <;> rw [hp] at hb <;> simp at hb ⊢ <;> omega
theorem ofL_set {p : Nat → Bool} {i j w : Nat} (hw : w < 4) (h : ∀ v, v < 4 → v ≠ w → ofW p i v = ofW p j v) : (ofL p i).set w ((ofW p j w : Nat) : Int) = ofL p j := by
  have : w = 0 ∨ w = 1 ∨ w = 2 ∨ w = 3 := by omega
  rcases this with rfl | rfl | rfl | rfl <;> simp only [ofL, List.set_cons_zero, List.set_cons_succ]
  · rw [h 1 (by omega) (by omega), h 2 (by omega) (by omega), h 3 (by omega) (by omega)]
  · rw [h 0 (by omega) (by omega), h 2 (by omega) (by omega), h 3 (by omega) (by omega)]
  · rw [h 0 (by omega) (by omega), h 1 (by omega) (by omega), h 3 (by omega) (by omega)]
  · rw [h 0 (by omega) (by omega), h 1 (by omega) (by omega), h 2 (by omega) (by omega)]
theorem ofL_next {p : Nat → Bool} {i : Nat} (hi : i < 256) : (ofL p i).set (i / 64) ((ofW p i (i / 64) / 2 : Nat) : Int) = ofL p (i + 1) := by
  have hb := ofW_bit p i
  rw [show ofW p i (i / 64) / 2 = ofW p (i + 1) (i / 64) by split at hb <;> omega]
  exact ofL_set (by omega) fun v _ hv => (ofW_other hv).symm
theorem ofL_back {p : Nat → Bool} {i : Nat} (hi : i < 256) : (ofL p (i + 1)).set (i / 64) ((ofW p i (i / 64) : Nat) : Int) = ofL p i := ofL_set (by omega) fun v _ hv => ofW_other hv
/-- The first 'i' of a list's places told. -/
def upTo (p : Nat → Bool) (n i : Nat) : List Bool := (List.range n).map fun k => decide (k < i) && p k
theorem upTo_zero (p : Nat → Bool) (n : Nat) : upTo p n 0 = List.replicate n false := by
  apply List.ext_getElem
  · simp [upTo]
  · intro k h1 h2; simp [upTo]
theorem upTo_len (p : Nat → Bool) (n i : Nat) : (upTo p n i).length = n := by simp [upTo]
theorem upTo_set {p : Nat → Bool} {n i : Nat} (h : i < n) : (upTo p n i).set i (p i) = upTo p n (i + 1) := by
  apply List.ext_getElem
  · simp [upTo]
  · intro k h1 h2
    rw [List.getElem_set]
    simp only [upTo, List.getElem_map, List.getElem_range]
    split
    · rename_i e; subst e; simp
    · rename_i e
      congr 1
      rw [Bool.eq_iff_iff]; simp only [decide_eq_true_eq]; omega
theorem upTo_full (p : Nat → Bool) (n : Nat) : upTo p n n = (List.range n).map p := by
  apply List.ext_getElem
  · simp [upTo]
  · intro k h1 h2
    simp only [upTo, List.getElem_map, List.getElem_range]
    simp only [upTo, List.length_map, List.length_range] at h1
    simp [h1]
theorem upTo_get {p : Nat → Bool} {n i k : Nat} (h : k < n) : (upTo p n i).getD k false = (decide (k < i) && p k) := by
  rw [List.getD_eq_getElem?_getD, List.getElem?_eq_getElem (by simpa [upTo] using h)]
  simp [upTo]
theorem map_get {p : Nat → Bool} {n k : Nat} (h : k < n) : ((List.range n).map p).getD k false = p k := by
  rw [List.getD_eq_getElem?_getD, List.getElem?_eq_getElem (by simpa using h)]
  simp
end Go.Abs
/- SETS OF PROCESSORS: their members, one by one. -/
set_option linter.unusedVariables false
set_option linter.unusedSimpArgs false
namespace Go.Abs
theorem clear_low {u k : Nat} (h : u < 2 ^ 64) (hk : u.testBit k = true) (hl : ∀ j, j < k → u.testBit j = false) (j : Nat) : (u &&& (u - 1)).testBit j = (u.testBit j && decide (j ≠ k)) := by
  have hpos : 0 < u := by
    rcases Nat.eq_zero_or_pos u with e | e
    · subst e; simp at hk
    · exact e
  have h1 := congrArg (fun x => x.testBit j) (low_bit h hk hl)
  simp only [Nat.testBit_and, show 2 ^ 64 - u = 2 ^ 64 - ((u - 1) + 1) by omega, Nat.testBit_two_pow_sub_succ (show u - 1 < 2 ^ 64 by omega), Nat.testBit_two_pow] at h1
  rw [Nat.testBit_and]
  by_cases hj : j < 64
  · cases hu : u.testBit j with
    | false => simp
    | true =>
      rw [hu] at h1
      simp only [hj, decide_true, Bool.true_and] at h1 ⊢
      by_cases e : j = k
      · subst e; simpa using h1
      · have : ¬ k = j := fun x => e x.symm
        simp only [this, decide_false, Bool.not_eq_false'] at h1
        simp [h1, e]
  · rw [Nat.testBit_lt_two_pow (Nat.lt_of_lt_of_le h (Nat.pow_le_pow_right (by omega) (by omega)))]; simp
/-- The members below 'n'. -/
def elems (p : Nat → Bool) (n : Nat) : List Nat := (List.range n).filter p
theorem elems_succ (p : Nat → Bool) (n : Nat) : elems p (n + 1) = elems p n ++ (if p n then [n] else []) := by
  unfold elems
  rw [List.range_succ, List.filter_append]
  cases h : p n <;> simp [h]
theorem elems_len (p : Nat → Bool) : ∀ n, (elems p n).length = cnt p n
  | 0 => rfl
  | n + 1 => by rw [elems_succ, List.length_append, elems_len p n, cnt]; cases p n <;> rfl
theorem elems_at {p : Nat → Bool} {m : Nat} (hm : p m = true) : ∀ {n : Nat}, m < n → (elems p n)[cnt p m]? = some m
  | 0, h => by omega
  | n + 1, h => by
    rw [elems_succ]
    by_cases e : m = n
    · subst e
      rw [List.getElem?_append_right (by rw [elems_len]; exact Nat.le_refl _), elems_len, Nat.sub_self, hm]; rfl
    · have ih := elems_at hm (n := n) (by omega)
      rw [List.getElem?_append_left (List.getElem?_eq_some_iff.1 ih).1, ih]
/-- The i-th one. -/
def nth (p : Nat → Bool) (i : Int) : Int := (((elems p 256).getD i.toNat 0 : Nat) : Int)
theorem nth_at {p : Nat → Bool} {m : Nat} (hm : p m = true) (h : m < 256) : nth p ((cnt p m : Nat) : Int) = m := by
  unfold nth
  rw [List.getD_eq_getElem?_getD, Int.toNat_natCast, elems_at hm h]; rfl
theorem cnt_gap {p : Nat → Bool} {a : Nat} : ∀ {b : Nat}, a ≤ b → (∀ i, a ≤ i → i < b → p i = false) → cnt p b = cnt p a
  | 0, h, _ => by rw [show a = 0 by omega]
  | b + 1, h, hf => by
    by_cases e : a = b + 1
    · rw [e]
    · rw [cnt, hf b (by omega) (by omega), cnt_gap (b := b) (by omega) fun i h1 h2 => hf i h1 (by omega)]; rfl
theorem cnt_mono {p : Nat → Bool} {a b : Nat} (h : a ≤ b) : cnt p a ≤ cnt p b := by
  obtain ⟨d, rfl⟩ : ∃ d, b = a + d := ⟨b - a, by omega⟩
  rw [cnt_add]; omega
theorem cnt_inj {p : Nat → Bool} {a b : Nat} (ha : p a = true) (hb : p b = true) (h : cnt p a = cnt p b) : a = b := by
  rcases Nat.lt_trichotomy a b with h1 | h1 | h1
  · have := cnt_mono (p := p) (show a + 1 ≤ b from h1)
    rw [cnt, ha] at this
    simp only [if_true] at this
    omega
  · exact h1
  · have := cnt_mono (p := p) (show b + 1 ≤ a from h1)
    rw [cnt, hb] at this
    simp only [if_true] at this
    omega
theorem nth_spec {p : Nat → Bool} {i : Int} (h0 : 0 ≤ i) (h : i < ((cnt p 256 : Nat) : Int)) : ∃ m : Nat, nth p i = m ∧ m < 256 ∧ p m = true ∧ ((cnt p m : Nat) : Int) = i := by
  have hl : i.toNat < (elems p 256).length := by rw [elems_len]; omega
  have hm : (elems p 256)[i.toNat] ∈ elems p 256 := List.getElem_mem _
  generalize hv : (elems p 256)[i.toNat] = v at hm
  have hm2 : v ∈ (List.range 256).filter p := hm
  obtain ⟨h1, h2⟩ := List.mem_filter.1 hm2
  refine ⟨v, ?_, List.mem_range.1 h1, h2, ?_⟩
  · unfold nth
    rw [List.getD_eq_getElem?_getD, List.getElem?_eq_getElem hl, hv]; rfl
  · have h3 := elems_at h2 (List.mem_range.1 h1)
    have hnd : (elems p 256).Nodup := List.Nodup.sublist List.filter_sublist List.nodup_range
    obtain ⟨h4, h5⟩ := List.getElem?_eq_some_iff.1 h3
    have := (List.getElem_inj hnd).1 (h5.trans hv.symm)
    omega
/-- A word from a place on. -/
def from' (p : Nat → Bool) (t : Nat) : Nat → Bool := fun j => p j && decide (t ≤ j)
theorem W_from0 {p : Nat → Bool} {i : Nat} : W (from' p (64 * i)) i = W p i := W_ext fun j h1 _ => by simp [from', h1]
theorem W_from_end {p : Nat → Bool} {i t : Nat} (h : W (from' p t) i = 0) : ∀ j, 64 * i ≤ j → j < 64 * i + 64 → t ≤ j → p j = false := by
  intro j h1 h2 h3
  have : (wd (fun j => from' p t (64 * i + j)) 64).testBit (j - 64 * i) = false := by
    have : wd (fun j => from' p t (64 * i + j)) 64 = 0 := by unfold W at h; omega
    rw [this, Nat.zero_testBit]
  rw [wd_bit] at this
  simpa [from', show j - 64 * i < 64 by omega, show 64 * i + (j - 64 * i) = j by omega, h3] using this
/-- The least one of a word from a place on: what the program reckons, and what is left behind it. -/
theorem W_from_next {p : Nat → Bool} {i t : Nat} (ht : 64 * i ≤ t) (h : W (from' p t) i ≠ 0) :
    ∃ m, t ≤ m ∧ m < 64 * i + 64 ∧ p m = true ∧ (∀ j, t ≤ j → j < m → p j = false) ∧ lowI (W (from' p t) i) = ((2 ^ (m - 64 * i) - 1 : Nat) : Int) ∧
      bitAnd .u64 (W (from' p t) i) (IntKind.u64.wrap (W (from' p t) i - 1)) = W (from' p (m + 1)) i := by
  cases hf : firstOf (fun j => from' p t (64 * i + j)) 64 with
  | none =>
    exfalso; apply h
    have : W (from' p t) i = W (fun _ => false) i := W_ext fun j h1 h2 => by
      have := firstOf_none.1 hf (j - 64 * i) (by omega)
      rwa [show 64 * i + (j - 64 * i) = j by omega] at this
    rw [this, W_zero]
  | some k =>
    obtain ⟨k1, k2, k3⟩ := firstOf_some.1 hf
    have k2' : p (64 * i + k) = true ∧ t ≤ 64 * i + k := by simpa [from'] using k2
    have hbit : ∀ j, (wd (fun j => from' p t (64 * i + j)) 64).testBit j = (decide (j < 64) && from' p t (64 * i + j)) := fun j => wd_bit _ _ _
    have hb1 : (wd (fun j => from' p t (64 * i + j)) 64).testBit k = true := by rw [hbit]; simp [k1, k2]
    have hb2 : ∀ j, j < k → (wd (fun j => from' p t (64 * i + j)) 64).testBit j = false := fun j hj => by rw [hbit, k3 j hj]; simp
    have hlt := wd_lt (fun j => from' p t (64 * i + j)) 64
    have hpos : 0 < wd (fun j => from' p t (64 * i + j)) 64 := by
      rcases Nat.eq_zero_or_pos (wd (fun j => from' p t (64 * i + j)) 64) with e | e
      · rw [e] at hb1; simp at hb1
      · exact e
    refine ⟨64 * i + k, k2'.2, by omega, k2'.1, fun j h1 h2 => ?_, ?_, ?_⟩
    · have := k3 (j - 64 * i) (by omega)
      rw [show 64 * i + (j - 64 * i) = j by omega] at this
      simpa [from', h1] using this
    · rw [show 64 * i + k - 64 * i = k by omega]
      exact (lowI_eq hlt hb1 hb2).1
    · have e1 : IntKind.u64.wrap (W (from' p t) i - 1) = ((wd (fun j => from' p t (64 * i + j)) 64 - 1 : Nat) : Int) := by
        unfold W
        rw [show ((wd (fun j => from' p t (64 * i + j)) 64 : Nat) : Int) - 1 = ((wd (fun j => from' p t (64 * i + j)) 64 - 1 : Nat) : Int) by omega, u64_wrap (by omega)]
      rw [e1]
      unfold W
      rw [and_nat hlt (by omega)]
      congr 1
      rw [← wd_self (u := wd (fun j => from' p t (64 * i + j)) 64 &&& (wd (fun j => from' p t (64 * i + j)) 64 - 1)) (n := 64) (Nat.lt_of_le_of_lt Nat.and_le_left hlt)]
      refine wd_ext fun j hj => ?_
      rw [clear_low hlt hb1 hb2, hbit]
      have hd : decide (j < 64) = true := by simp [hj]
      rw [hd, Bool.true_and]
      unfold from'
      by_cases hjk : j ≤ k
      · by_cases e : j = k
        · subst e; simp
        · have := k3 j (by omega)
          rw [show (p (64 * i + j) && decide (t ≤ 64 * i + j)) = false from this]
          have : ¬ 64 * i + k + 1 ≤ 64 * i + j := by omega
          simp [this]
      · have h1 : t ≤ 64 * i + j := by omega
        have h2 : 64 * i + k + 1 ≤ 64 * i + j := by omega
        have h3 : j ≠ k := by omega
        simp [h1, h2, h3]
theorem map_false (n : Nat) (f : Nat → Bool) (h : ∀ k, k < n → f k = false) : (List.range n).map f = List.replicate n false := by
  rw [List.eq_replicate_iff]
  exact ⟨by simp, fun b hb => by
    obtain ⟨k, hk, rfl⟩ := List.mem_map.1 hb
    exact h k (List.mem_range.1 hk)⟩
end Go.Abs
/- SETS OF PROCESSORS: what of a text is still to be told at a place. -/
set_option linter.unusedVariables false
set_option linter.unusedSimpArgs false
namespace Go.Abs
attribute [local irreducible] setOf pieces
theorem runF_ext {p q : Nat → Bool} : ∀ (k m : Nat), (∀ i, m < i → i < 256 → p i = q i) → runF p k m = runF q k m
  | 0, _, _ => rfl
  | k + 1, m, h => by
    rw [runF, runF]
    by_cases hm : m + 1 < 256
    · rw [h (m + 1) (by omega) hm, runF_ext k (m + 1) fun i h1 h2 => h i (by omega) h2]
    · rw [if_neg (by omega), if_neg (by omega)]
theorem runEnd_ext {p q : Nat → Bool} {m : Nat} (h : ∀ i, m < i → i < 256 → p i = q i) : runEnd p m = runEnd q m := runF_ext _ m h
theorem runEnd_next {p : Nat → Bool} : ∀ (d m : Nat), m + d = 255 → ¬ (runEnd p m + 1 < 256 ∧ p (runEnd p m + 1) = true)
  | 0, m, h => by
    have := runEnd_ge p m
    omega
  | d + 1, m, h => by
    by_cases hc : m + 1 < 256 ∧ p (m + 1) = true
    · rw [runEnd_on hc.1 hc.2]
      exact runEnd_next d (m + 1) (by omega)
    · rw [runEnd_stop hc]; exact hc
/-- Where what is still to be told begins. -/
def lo (p : Nat → Bool) (i : Nat) : Nat := if 0 < i ∧ p (i - 1) = true then runEnd p (i - 1) + 1 else i
theorem pieces_ext {p q : Nat → Bool} (h : ∀ i, i < 256 → p i = q i) : pieces (setOf p) = pieces (setOf q) := by rw [setOf_ext h]
theorem left_no {p : Nat → Bool} {i : Nat} (hi : i < 256) (h : p i = false) : pieces (setOf (from' p (lo p i))) = pieces (setOf (from' p (lo p (i + 1)))) := by
  have e1 : lo p (i + 1) = i + 1 := by unfold lo; rw [if_neg]; rw [Nat.add_sub_cancel, h]; simp
  have e2 : lo p i = i := by
    unfold lo
    split
    · rename_i hc
      rw [runEnd_stop (by rw [show i - 1 + 1 = i by omega, h]; simp)]; omega
    · rfl
  rw [e1, e2]
  refine pieces_ext fun j hj => ?_
  unfold from'
  by_cases e : j = i
  · subst e; rw [h]; rfl
  · congr 1
    rw [Bool.eq_iff_iff, decide_eq_true_eq, decide_eq_true_eq]; omega
theorem left_on {p : Nat → Bool} {i : Nat} (hi : i < 256) (h : p i = true) (h0 : 0 < i) (h1 : p (i - 1) = true) : lo p (i + 1) = lo p i := by
  unfold lo
  rw [if_pos ⟨by omega, by rw [Nat.add_sub_cancel, h]⟩, if_pos ⟨h0, h1⟩, Nat.add_sub_cancel, runEnd_on (m := i - 1) (by omega) (by rw [show i - 1 + 1 = i by omega, h]), show i - 1 + 1 = i by omega]
theorem left_start {p : Nat → Bool} {i : Nat} (hi : i < 256) (h : p i = true) (hs : ¬ (0 < i ∧ p (i - 1) = true)) :
    pieces (setOf (from' p (lo p i))) = pieceB i (runEnd p i) :: pieces (setOf (from' p (lo p (i + 1)))) := by
  have e2 : lo p i = i := by unfold lo; rw [if_neg hs]
  have e1 : lo p (i + 1) = runEnd p i + 1 := by unfold lo; rw [if_pos ⟨by omega, by rw [Nat.add_sub_cancel, h]⟩, Nat.add_sub_cancel]
  have hge := runEnd_ge p i
  have hf : firstOf (bitAt (setOf (from' p i))) 256 = some i := by
    rw [firstOf_some]
    refine ⟨hi, ?_, fun j hj => ?_⟩
    · rw [bitAt_setOf hi]
      unfold from'
      rw [h, Bool.true_and, decide_eq_true_eq]
      exact Nat.le_refl _
    · rw [bitAt_setOf (by omega)]
      unfold from'
      rw [show decide (i ≤ j) = false by simp only [decide_eq_false_iff_not]; omega, Bool.and_false]
  have hre : runEnd (bitAt (setOf (from' p i))) i = runEnd p i := runEnd_ext fun j h1 h2 => by
    rw [bitAt_setOf h2]
    unfold from'
    rw [show decide (i ≤ j) = true by simp only [decide_eq_true_eq]; omega, Bool.and_true]
  rw [e2, pieces_some hf, hre, e1]
  congr 1
  unfold cutRun
  refine pieces_ext fun j hj => ?_
  rw [bitAt_setOf hj, bitAt_setOf hj, hre]
  unfold from' inRange
  rw [Bool.and_assoc]
  congr 1
  rw [Bool.eq_iff_iff]
  simp only [Bool.and_eq_true, Bool.not_eq_true', Bool.and_eq_false_iff, decide_eq_true_eq, decide_eq_false_iff_not]
  omega
theorem lo_end {p : Nat → Bool} : pieces (setOf (from' p (lo p 256))) = [] := by
  have hge : 256 ≤ lo p 256 := by
    unfold lo
    split
    · have := runEnd_ge p 255; show 256 ≤ runEnd p 255 + 1; omega
    · exact Nat.le_refl _
  refine pieces_none (firstOf_none.2 fun j hj => ?_)
  rw [bitAt_setOf hj]
  unfold from'
  rw [show decide (lo p 256 ≤ j) = false by simp only [decide_eq_false_iff_not]; omega, Bool.and_false]
/-- Pieces, each behind a comma. -/
def preL (ws : List ByteArray) : List UInt8 := (ws.map fun w => 44 :: w.data.toList).flatten
theorem preL_cons (w : ByteArray) (ws : List ByteArray) : preL (w :: ws) = 44 :: w.data.toList ++ preL ws := rfl
theorem preL_join : ∀ (w : ByteArray) (ws : List ByteArray), preL (w :: ws) = 44 :: Lib.join ((w :: ws).map (·.data.toList)) [44]
  | w, [] => by simp [preL, Lib.join]
  | w, v :: vs => by
    rw [preL_cons, preL_join v vs]
    simp [Lib.join]
theorem toB_app (a b : List UInt8) : toB a ++ toB b = toB (a ++ b) := by
  apply ByteArray.ext
  simp [toB]
theorem text_pre (l : List Int) : textB l = if preL (pieces l) = [] then ⟨#[45]⟩ else toB ((preL (pieces l)).drop 1) := by
  unfold textB
  cases h : pieces l with
  | nil => rfl
  | cons w ws =>
    rw [preL_join, if_neg (by simp)]
    rfl
end Go.Abs
/- SETS OF PROCESSORS: a text's set is the set. -/
set_option linter.unusedVariables false
set_option linter.unusedSimpArgs false
namespace Go.Abs
theorem dig_ok : ∀ m, m < 256 → numR (itoaB (m : Nat)) = m ∧ ¬ 45 ∈ (itoaB (m : Nat)).data.toList ∧ ¬ 44 ∈ (itoaB (m : Nat)).data.toList := by decide +kernel
attribute [local irreducible] setOf pieces itoaB
theorem spL_none {c : UInt8} : ∀ {l : List UInt8}, ¬ c ∈ l → spL c l = [l]
  | [], _ => rfl
  | x :: r, h => by
    have hx : x ≠ c := fun e => h (by rw [e]; simp)
    have hr : ¬ c ∈ r := fun e => h (List.mem_cons_of_mem _ e)
    rw [spL, if_neg hx, spL_none hr]
theorem spL_app {c : UInt8} (t : List UInt8) : ∀ {l : List UInt8}, ¬ c ∈ l → spL c (l ++ c :: t) = l :: spL c t
  | [], _ => by simp [spL]
  | x :: r, h => by
    have hx : x ≠ c := fun e => h (by rw [e]; simp)
    have hr : ¬ c ∈ r := fun e => h (List.mem_cons_of_mem _ e)
    rw [List.cons_append, spL, if_neg hx, spL_app t hr]
theorem spL_join {c : UInt8} : ∀ (w : List UInt8) (ws : List (List UInt8)), (∀ x ∈ w :: ws, ¬ c ∈ x) → spL c (Lib.join (w :: ws) [c]) = w :: ws
  | w, [], h => by
    rw [Lib.join_one]
    exact spL_none (h w (by simp))
  | w, v :: vs, h => by
    have e : Lib.join (w :: v :: vs) [c] = w ++ c :: Lib.join (v :: vs) [c] := by simp [Lib.join]
    rw [e, spL_app _ (h w (by simp)), spL_join v vs fun x hx => h x (List.mem_cons_of_mem _ hx)]
theorem spB_join {c : UInt8} {w : ByteArray} {ws : List ByteArray} (h : ∀ x ∈ w :: ws, ¬ c ∈ x.data.toList) : spB c (joinB (w :: ws) ⟨#[c]⟩) = w :: ws := by
  unfold spB joinB
  have := spL_join (c := c) w.data.toList (ws.map (·.data.toList)) (fun x hx => by
    rw [← List.map_cons (f := fun x : ByteArray => x.data.toList)] at hx
    obtain ⟨y, hy, rfl⟩ := List.mem_map.1 hx
    exact h y hy)
  show (spL c (Lib.join ((w :: ws).map (·.data.toList)) [c])).map toB = w :: ws
  rw [List.map_cons, this, List.map_cons, List.map_map, toB_data]
  congr 1
  conv => rhs; rw [← List.map_id ws]
  exact List.map_congr_left fun x _ => toB_data x
/-- A piece's pieces. -/
theorem cut_none {c : UInt8} {l : List UInt8} (h : ¬ c ∈ l) : Lib.cut l [c] = (l, [], false) := by
  rcases cut_spL c l with ⟨_, h2⟩ | ⟨p, t, h1, h2⟩
  · exact h2
  · rw [spL_none h] at h1
    exact absurd (List.cons.inj h1).2.symm (spL_ne c t)
theorem cut_app {c : UInt8} {l : List UInt8} (t : List UInt8) (h : ¬ c ∈ l) : ∃ t', Lib.cut (l ++ c :: t) [c] = (l, t', true) ∧ spL c t' = spL c t := by
  rcases cut_spL c (l ++ c :: t) with ⟨h1, h2⟩ | ⟨p, t', h1, h2⟩
  · rw [spL_app t h] at h1
    exact absurd (List.cons.inj h1).2 (spL_ne c t)
  · rw [spL_app t h] at h1
    obtain ⟨rfl, e⟩ := List.cons.inj h1
    exact ⟨t', h2, e.symm⟩
theorem spL_one {c : UInt8} {s t : List UInt8} (h : spL c s = [t]) : s = t := by
  rcases cut_spL c s with ⟨h1, _⟩ | ⟨p, t', h1, _⟩
  · rw [h1] at h; exact (List.cons.inj h).1
  · rw [h1] at h; exact absurd (List.cons.inj h).2 (spL_ne c t')
theorem cut_two {c : UInt8} {l t : List UInt8} (h : ¬ c ∈ l) (ht : ¬ c ∈ t) : Lib.cut (l ++ c :: t) [c] = (l, t, true) := by
  obtain ⟨t', h1, h2⟩ := cut_app t h
  rw [spL_none ht] at h2
  rw [h1, spL_one h2]
theorem piece_comma {m e : Nat} (hm : m < 256) (he : e < 256) : ¬ (44 : UInt8) ∈ (pieceB m e).data.toList := by
  have h1 := (dig_ok m hm).2.2
  have h2 := (dig_ok e he).2.2
  unfold pieceB
  cases decide ((e : Int) > m) with
  | false => exact h1
  | true =>
    intro h
    have h : (44 : UInt8) ∈ (itoaB m ++ ((⟨#[45]⟩ : ByteArray) ++ itoaB e)).data.toList := h
    rw [ByteArray.data_append, Array.toList_append, List.mem_append, ByteArray.data_append, Array.toList_append, List.mem_append] at h
    rcases h with h | h | h
    · exact h1 h
    · revert h; decide
    · exact h2 h
theorem pieces_comma : ∀ (n : Nat) (l : List Int), cnt (bitAt l) 256 ≤ n → ∀ x ∈ pieces l, ¬ (44 : UInt8) ∈ x.data.toList
  | 0, l, h, x, hx => by
    cases hf : firstOf (bitAt l) 256 with
    | none => rw [pieces_none hf] at hx; cases hx
    | some m => have := cutRun_lt hf; omega
  | n + 1, l, h, x, hx => by
    cases hf : firstOf (bitAt l) 256 with
    | none => rw [pieces_none hf] at hx; cases hx
    | some m =>
      have hlt := cutRun_lt hf
      rw [pieces_some hf] at hx
      rcases List.mem_cons.1 hx with rfl | hx
      · have hm := (firstOf_some.1 hf).1
        exact piece_comma hm (runEnd_lt hm)
      · exact pieces_comma n _ (by omega) x hx
end Go.Abs
/- VECTORS: their texts, plainly, there and back. -/
set_option linter.unusedVariables false
set_option linter.unusedSimpArgs false
namespace Go.Abs
open Lib
def sCpu : List UInt8 := [99, 112, 117]
def sMem : List UInt8 := [109, 101, 109, 111, 114, 121]
def sHug : List UInt8 := [104, 117, 103, 101, 112, 97, 103, 101, 115]
def vIdx (n : List UInt8) : Nat := if n = sCpu then 0 else if n = sMem then 1 else if n = sHug then 2 else 3
def vEach (r : Nat) : Nat := if r = 0 then 1000000 else 1000000000
def vMost (r : Nat) : Nat := if r = 0 then 1099511627776 else 1125899906842624
/-- A part of a text: the resource, how much, the error: as the program finds them. -/
def vRead (r v : Nat) : Nat × Int :=
  if (pgN v (vEach r)).2 ≠ 0 then (0, (pgN v (vEach r)).2) else
  if vMost r < (pgN v (vEach r)).1 then (0, 15) else
  if r = 2 ∧ (pgN v (vEach r)).1 % 2097152 ≠ 0 then (0, 11) else ((pgN v (vEach r)).1, 0)
def vPart (x : List UInt8) : Nat × Nat × Int :=
  if (cut x [61]).2.2 = false ∨ vIdx (cut x [61]).1 = 3 then (0, 0, 11) else
  if (aparse (cut x [61]).2.1).2 ≠ 0 ∨ (aparse (cut x [61]).2.1).1 = 0 then (vIdx (cut x [61]).1, 0, (aparse (cut x [61]).2.1).2) else
  (vIdx (cut x [61]).1, vRead (vIdx (cut x [61]).1) (aparse (cut x [61]).2.1).1)
theorem vIdx_le (n : List UInt8) : vIdx n ≤ 3 := by unfold vIdx; split; omega; split; omega; split <;> omega
theorem vRead_ok {r v : Nat} (h : (vRead r v).2 = 0) : (vRead r v).1 ≤ vMost r ∧ (r = 2 → (vRead r v).1 % 2097152 = 0) := by
  unfold vRead at h ⊢
  by_cases h1 : (pgN v (vEach r)).2 ≠ 0
  · rw [if_pos h1] at h; exact absurd h h1
  · by_cases h2 : vMost r < (pgN v (vEach r)).1
    · rw [if_neg h1, if_pos h2] at h; cases h
    · by_cases h3 : r = 2 ∧ (pgN v (vEach r)).1 % 2097152 ≠ 0
      · rw [if_neg h1, if_neg h2, if_pos h3] at h; cases h
      · rw [if_neg h1, if_neg h2, if_neg h3]
        exact ⟨by dsimp only; omega, fun he => Classical.byContradiction fun hn => h3 ⟨he, hn⟩⟩
theorem vPart_ok {x : List UInt8} (h : (vPart x).2.2 = 0) : (vPart x).1 < 3 ∧ (vPart x).2.1 ≤ vMost (vPart x).1 ∧ ((vPart x).1 = 2 → (vPart x).2.1 % 2097152 = 0) := by
  have hle := vIdx_le (cut x [61]).1
  unfold vPart at h ⊢
  by_cases h1 : (cut x [61]).2.2 = false ∨ vIdx (cut x [61]).1 = 3
  · rw [if_pos h1] at h; cases h
  · have h3 : vIdx (cut x [61]).1 < 3 := by
      rcases Nat.lt_or_ge (vIdx (cut x [61]).1) 3 with h' | h'
      · exact h'
      · exact absurd (.inr (by omega)) h1
    by_cases h2 : (aparse (cut x [61]).2.1).2 ≠ 0 ∨ (aparse (cut x [61]).2.1).1 = 0
    · rw [if_neg h1, if_pos h2]
      exact ⟨h3, Nat.zero_le _, fun _ => rfl⟩
    · rw [if_neg h1, if_neg h2] at h ⊢
      obtain ⟨k1, k2⟩ := vRead_ok h
      exact ⟨h3, k1, k2⟩
def vGo : List (List UInt8) → List Bool → List Int → List Int × Int
  | [], _, p => (p, 0)
  | x :: r, s, p => if vIdx (cut x [61]).1 < 3 ∧ s.getD (vIdx (cut x [61]).1) false = true then ([0, 0, 0], 11) else if (vPart x).2.2 ≠ 0 then ([0, 0, 0], (vPart x).2.2) else vGo r (s.set (vPart x).1 true) (p.set (vPart x).1 ((vPart x).2.1 : Nat))
def vParse (s : List UInt8) : List Int × Int := if s = [] then ([0, 0, 0], 10) else if s = [45] then ([0, 0, 0], 0) else vGo (spL 44 s) [false, false, false] [0, 0, 0]
/-- Is a vector right? -/
def vRight (c m h : Int) : Bool := decide (0 ≤ c ∧ c ≤ 1099511627776 ∧ 0 ≤ m ∧ m ≤ 1125899906842624 ∧ 0 ≤ h ∧ h ≤ 1125899906842624 ∧ h % 2097152 = 0)
def vParts (c m h : Nat) : List (List UInt8) := (if 0 < c then [sCpu ++ 61 :: atext (c * 1000000)] else []) ++ ((if 0 < m then [sMem ++ 61 :: btext (m * 1000000000)] else []) ++ (if 0 < h then [sHug ++ 61 :: btext (h * 1000000000)] else []))
def vText (c m h : Nat) : List UInt8 := if vParts c m h = [] then [45] else join (vParts c m h) [44]
/-! ### There and back -/
theorem dec_not {c : UInt8} (hc : isD c = false) (n : Nat) : ¬ c ∈ decDigits n := fun h => by
  have := List.all_eq_true.1 (decDigits_dig n).1 c h
  rw [hc] at this; cases this
theorem suf_not (k : Nat) : ¬ (44 : UInt8) ∈ sufA k ∧ ¬ (61 : UInt8) ∈ sufA k ∧ ¬ (44 : UInt8) ∈ sufB k ∧ ¬ (61 : UInt8) ∈ sufB k := by
  have h1 : ∀ x ∈ ([[110], [117], [109], [], [107], [77], [71], [84], [80], [69]] : List (List UInt8)), ¬ (44 : UInt8) ∈ x ∧ ¬ (61 : UInt8) ∈ x := by decide
  have h2 : ∀ x ∈ ([[], [75, 105], [77, 105], [71, 105], [84, 105], [80, 105], [69, 105]] : List (List UInt8)), ¬ (44 : UInt8) ∈ x ∧ ¬ (61 : UInt8) ∈ x := by decide
  have g : ∀ (l : List (List UInt8)), (∀ x ∈ l, ¬ (44 : UInt8) ∈ x ∧ ¬ (61 : UInt8) ∈ x) → ¬ (44 : UInt8) ∈ l.getD k [] ∧ ¬ (61 : UInt8) ∈ l.getD k [] := fun l hl => by
    rw [List.getD_eq_getElem?_getD]
    cases hk : l[k]? with
    | none => simp
    | some x => exact hl x (List.mem_of_getElem? hk)
  exact ⟨(g _ h1).1, (g _ h1).2, (g _ h2).1, (g _ h2).2⟩
theorem atext_not (v : Nat) : ¬ (44 : UInt8) ∈ atext v ∧ ¬ (61 : UInt8) ∈ atext v := by
  unfold atext
  split
  · decide
  · have := suf_not (thou 9 v).2
    simp only [List.mem_append, not_or]
    exact ⟨⟨dec_not (by decide) _, this.1⟩, ⟨dec_not (by decide) _, this.2.1⟩⟩
theorem btext_not (v : Nat) : ¬ (44 : UInt8) ∈ btext v ∧ ¬ (61 : UInt8) ∈ btext v := by
  unfold btext
  split
  · exact atext_not v
  · have := suf_not (kibi 6 (v / 1000000000)).2
    simp only [List.mem_append, not_or]
    exact ⟨⟨dec_not (by decide) _, this.2.2.1⟩, ⟨dec_not (by decide) _, this.2.2.2⟩⟩
theorem ceil_mul (n : Nat) {p : Nat} (hp : 0 < p) : ceilD (n * p) p = n := by
  unfold ceilD
  rw [Nat.mul_div_cancel _ hp, Nat.mul_mod_left]; rfl
theorem vPart_of {name t : List UInt8} {r n v : Nat} (hn : ¬ (61 : UInt8) ∈ name) (ht : ¬ (61 : UInt8) ∈ t) (hr : vIdx name = r) (h3 : r < 3) (hp : aparse t = (n * vEach r, 0)) (hm : n ≤ vMost r) (hh : r = 2 → n % 2097152 = 0) :
    vPart (name ++ 61 :: t) = (r, n, 0) ∧ vIdx (cut (name ++ 61 :: t) [61]).1 = r := by
  have he : 0 < vEach r := by unfold vEach; split <;> omega
  have hm2 : n ≤ 1125899906842624 := by unfold vMost at hm; split at hm <;> omega
  have hg := pgN_of (n := n) he (by unfold vEach mostA; split <;> omega) (by omega)
  unfold vPart vRead
  rw [cut_two hn ht]
  simp only [hr, hp, hg]
  refine ⟨?_, trivial⟩
  rw [if_neg (by simp; omega)]
  by_cases h0 : n = 0
  · subst h0
    rw [if_pos (.inr (Nat.zero_mul _))]
  · rw [if_neg (fun hc => by
      rcases hc with hc | hc
      · exact hc rfl
      · rcases Nat.mul_eq_zero.1 hc with hc | hc <;> omega), if_neg (by simp), if_neg (by omega), if_neg (fun hc => hc.2 (hh hc.1))]
theorem vPart_cpu {n : Nat} (h : n ≤ 1099511627776) : vPart (sCpu ++ 61 :: atext (n * 1000000)) = (0, n, 0) ∧ vIdx (cut (sCpu ++ 61 :: atext (n * 1000000)) [61]).1 = 0 :=
  vPart_of (v := 0) (by decide) (atext_not _).2 (by decide) (by omega) (aparse_atext (by unfold mostA; omega)) h (by omega)
theorem vPart_mem {n : Nat} (h : n ≤ 1125899906842624) : vPart (sMem ++ 61 :: btext (n * 1000000000)) = (1, n, 0) ∧ vIdx (cut (sMem ++ 61 :: btext (n * 1000000000)) [61]).1 = 1 :=
  vPart_of (v := 0) (by decide) (btext_not _).2 (by decide) (by omega) (aparse_btext (by unfold mostA; omega)) h (by omega)
theorem vPart_hug {n : Nat} (h : n ≤ 1125899906842624) (h2 : n % 2097152 = 0) : vPart (sHug ++ 61 :: btext (n * 1000000000)) = (2, n, 0) ∧ vIdx (cut (sHug ++ 61 :: btext (n * 1000000000)) [61]).1 = 2 :=
  vPart_of (v := 0) (by decide) (btext_not _).2 (by decide) (by omega) (aparse_btext (by unfold mostA; omega)) h (fun _ => h2)
theorem vParts_comma {c m h : Nat} : ∀ x ∈ vParts c m h, ¬ (44 : UInt8) ∈ x := by
  have key : ∀ (name t : List UInt8), ¬ (44 : UInt8) ∈ name → ¬ (44 : UInt8) ∈ t → ¬ (44 : UInt8) ∈ name ++ 61 :: t := fun name t h1 h2 => by
    simp only [List.mem_append, List.mem_cons, not_or]
    exact ⟨h1, by decide, h2⟩
  intro x hx
  unfold vParts at hx
  simp only [List.mem_append] at hx
  rcases hx with hx | hx | hx <;> split at hx <;> simp only [List.mem_singleton, List.not_mem_nil] at hx <;> subst hx
  · exact key _ _ (by decide) (atext_not _).1
  · exact key _ _ (by decide) (btext_not _).1
  · exact key _ _ (by decide) (btext_not _).1
theorem vGo_parts {c m h : Nat} (hc : c ≤ 1099511627776) (hm : m ≤ 1125899906842624) (hh : h ≤ 1125899906842624) (h2 : h % 2097152 = 0) : vGo (vParts c m h) [false, false, false] [0, 0, 0] = ([(c : Int), (m : Int), (h : Int)], 0) := by
  obtain ⟨e1, f1⟩ := vPart_cpu hc
  obtain ⟨e2, f2⟩ := vPart_mem hm
  obtain ⟨e3, f3⟩ := vPart_hug hh h2
  unfold vParts
  by_cases a : 0 < c <;> by_cases b : 0 < m <;> by_cases d : 0 < h <;> simp only [a, b, d, if_true, if_false, List.nil_append, List.append_nil, List.cons_append, vGo, e1, e2, e3, f1, f2, f3] <;> simp <;> omega
theorem vParse_text {c m h : Nat} (hc : c ≤ 1099511627776) (hm : m ≤ 1125899906842624) (hh : h ≤ 1125899906842624) (h2 : h % 2097152 = 0) : vParse (vText c m h) = ([(c : Int), (m : Int), (h : Int)], 0) := by
  have hgo := vGo_parts hc hm hh h2
  have hcm := vParts_comma (c := c) (m := m) (h := h)
  unfold vText
  by_cases he : vParts c m h = []
  · rw [if_pos he]
    rw [he] at hgo
    have hgo : (([0, 0, 0] : List Int), (0 : Int)) = ([(c : Int), (m : Int), (h : Int)], 0) := hgo
    rw [← hgo]; rfl
  · rw [if_neg he]
    have hne : ∀ x ∈ vParts c m h, x ≠ [] ∧ x.head? ≠ some 45 := by
      intro x hx
      unfold vParts at hx
      simp only [List.mem_append] at hx
      rcases hx with hx | hx | hx <;> split at hx <;> simp only [List.mem_singleton, List.not_mem_nil] at hx <;> subst hx <;> exact ⟨by simp, by simp [sCpu, sMem, sHug]⟩
    revert hgo hcm hne
    cases hp : vParts c m h with
    | nil => exact absurd hp he
    | cons w ws =>
      intro hgo hcm hne
      have hsp := spL_join w ws hcm
      have hj : join (w :: ws) [44] ≠ [] ∧ (join (w :: ws) [44]).head? ≠ some 45 := by
        obtain ⟨h1, h2⟩ := hne w (by simp)
        cases w with
        | nil => exact absurd rfl h1
        | cons x w => cases ws with
          | nil => exact ⟨by simp [join], by simpa [join] using h2⟩
          | cons y ws => exact ⟨by simp [join], by simpa [join] using h2⟩
      unfold vParse
      rw [if_neg hj.1, if_neg (fun e => by rw [e] at hj; exact hj.2 rfl), hsp, hgo]
end Go.Abs
/- THE ROW: an argument that can be read as data, as a word of a shape; and what a law's row asks behind the call. -/
set_option linter.unusedVariables false
set_option linter.unusedSimpArgs false
namespace Go.Abs
variable {P : Program} {G : Gs}

/-- All of memory. -/
def memOf (W : World) : Mem := ⟨fun b i => W.cell? ⟨b, i, none⟩, fun b => W.heap[b]?⟩
def Sh.cells : Sh → Nat
  | .int _ => 1
  | .bool => 1
  | .str => 1
  | .arrI _ n => n
  | .arrB n => n
  | .arrS n => n
  | .nil => 0
  | .cons a b => a.cells + b.cells
  | .agg a => a.cells
  | .slice _ _ => 1
  | .fn _ => 1
  | .eptr _ _ => 1
  | .fnv _ _ => 1
/-- Is a type of the shape? (A struct's fields from some place on: the second kind.) -/
def TS (P : Program) : Sh → Sum TypeId (Nat × List Field) → Prop
  | .int k, .inl t => P.underlying t = some (.int k)
  | .bool, .inl t => P.underlying t = some .bool
  | .str, .inl t => P.underlying t = some .string
  | .arrI k n, .inl t => ∃ e, P.underlying t = some (.array n e) ∧ P.underlying e = some (.int k) ∧ P.cellsOf e = 1 ∧ P.cellsOf t = n
  | .arrB n, .inl t => ∃ e, P.underlying t = some (.array n e) ∧ P.underlying e = some .bool ∧ P.cellsOf e = 1 ∧ P.cellsOf t = n
  | .arrS n, .inl t => ∃ e, P.underlying t = some (.array n e) ∧ P.underlying e = some .string ∧ P.cellsOf e = 1 ∧ P.cellsOf t = n
  | .agg a, .inl t => ∃ fs, P.underlying t = some (.struct fs) ∧ P.cellsOf t = a.cells ∧ TS P a (.inr (0, fs.toList))
  | .nil, .inr (_, []) => True
  | .cons x r, .inr (off, f :: fs) => f.offset = off ∧ P.cellsOf f.type = x.cells ∧ TS P x (.inl f.type) ∧ TS P r (.inr (off + x.cells, fs))
  | .slice esz a, .inl t => ∃ e, P.underlying t = some (.slice e) ∧ P.cellsOf e = esz ∧ 0 < esz ∧ TS P a (.inl e)
  | _, _ => False
def allL {α : Type} (p : α → Prop) (l : List α) : Prop := ∀ (i : Nat) (x : α), l[i]? = some x → p x
/-- What is known of what stands in it. -/
def Sh.okV : (a : Sh) → a.val → Prop
  | .int k, n => (Lit.int k n).wf = true
  | .bool, _ => True
  | .str, s => s.size ≤ maxLen
  | .arrI k n, l => List.length (α := Int) l = n ∧ allL (α := Int) (fun x => (Lit.int k x).wf = true) l
  | .arrB n, l => List.length (α := Bool) l = n
  | .arrS n, l => List.length (α := ByteArray) l = n ∧ allL (α := ByteArray) (fun x => x.size ≤ maxLen) l
  | .nil, _ => True
  | .cons a b, x => a.okV x.1 ∧ b.okV x.2
  | .agg a, x => a.okV x
  | .slice _ a, l => List.length (α := a.val) l ≤ maxLen ∧ allL (α := a.val) (fun x => a.okV x) l
  | .fn _, _ => True
  | .eptr _ _, _ => True
  | .fnv _ _, _ => True

theorem one_elem {α : Type} (cs : List Value) (n : Nat) (hn : cs.length = n) (R : Value → α → Prop) (h : ∀ i, i < n → ∃ x v, (cs.drop (i * 1)).take 1 = [v] ∧ R v x) : ∃ l : List α, l.length = n ∧ ∀ (i : Nat) (v : Value), cs[i]? = some v → ∃ x : α, l[i]? = some x ∧ R v x := by
  induction cs generalizing n with
  | nil => exact ⟨[], by simpa using hn, fun i v hv => by simp at hv⟩
  | cons c cs ih =>
    simp only [List.length_cons] at hn
    obtain ⟨x, v, h1, h2⟩ := h 0 (by omega)
    simp only [Nat.zero_mul, List.drop_zero, List.take_succ_cons, List.take_zero, List.cons.injEq, and_true] at h1
    subst h1
    obtain ⟨l, hl, hl2⟩ := ih (n - 1) (by omega) fun i hi => by
      obtain ⟨x, v, h1, h2⟩ := h (i + 1) (by omega)
      refine ⟨x, v, ?_, h2⟩
      simpa using h1
    refine ⟨x :: l, by simp [hl]; omega, fun i v hv => ?_⟩
    cases i with
    | zero => simp only [List.getElem?_cons_zero, Option.some.injEq] at hv ⊢; subst hv; exact ⟨x, rfl, h2⟩
    | succ i => simpa using hl2 i v (by simpa using hv)
theorem map_of_each {α : Type} {cs : List Value} {l : List α} (g : α → Value) (hl : l.length = cs.length) (h : ∀ (i : Nat) (v : Value), cs[i]? = some v → ∃ x : α, l[i]? = some x ∧ v = g x) : cs = l.map g := by
  apply List.ext_getElem?
  intro i
  rw [List.getElem?_map]
  cases hc : cs[i]? with
  | none => rw [List.getElem?_eq_none (by rw [hl]; exact List.getElem?_eq_none_iff.1 hc)]; rfl
  | some v => obtain ⟨x, hx, rfl⟩ := h i v hc; rw [hx]; rfl

section
variable {H : Type} {enc : TypeId × Value → H} {W : World} {base : Nat} {sp : Nat → Bool} {held : Bool}

theorem open_sh : ∀ (a : Sh) (x : Sum TypeId (Nat × List Field)), TS P a x → (match x with
    | .inl t => ∀ (fuel : Nat) (cs : List Value) (y : DataW H × List MemPlace), DataW.trod enc P W base sp held fuel t cs = some y → ∃ v : a.val, a.okV v ∧ ∀ ρ, rel (memOf W) (a.mk fun _ => v) ρ .cells cs
    | .inr (off, fs) => ∀ (cs : List Value), (∀ (i : Nat) (f : Field), fs[i]? = some f → ∃ fuel y, DataW.trod enc P W base sp held fuel f.type ((cs.drop f.offset).take (P.cellsOf f.type)) = some y) → ∃ v : a.val, a.okV v ∧ ∀ ρ, rel (memOf W) (a.mk fun _ => v) ρ .cells ((cs.drop off).take a.cells)) := by
  intro a
  induction a with
  | int k =>
    intro x hT
    cases x with
    | inr y => exact hT.elim
    | inl t =>
      intro fuel cs y h
      obtain ⟨n, rfl, _, hw⟩ := DataW.trod_int hT h
      exact ⟨n, hw, fun ρ => ⟨by simp, rfl⟩⟩
  | bool =>
    intro x hT
    cases x with
    | inr y => exact hT.elim
    | inl t =>
      intro fuel cs y h
      obtain ⟨n, rfl, _⟩ := DataW.trod_bool hT h
      exact ⟨n, trivial, fun ρ => ⟨by simp, rfl⟩⟩
  | str =>
    intro x hT
    cases x with
    | inr y => exact hT.elim
    | inl t =>
      intro fuel cs y h
      obtain ⟨n, rfl, _, hw⟩ := DataW.trod_string hT h
      exact ⟨n, hw, fun ρ => ⟨by simp, rfl⟩⟩
  | arrI k n =>
    intro x hT
    cases x with
    | inr y => exact hT.elim
    | inl t =>
      obtain ⟨e, h1, h2, h3, h4⟩ := hT
      intro fuel cs y h
      obtain ⟨xs, m, _, _, hl, hxs, hx⟩ := DataW.trod_array h1 h
      rw [h3] at hx
      obtain ⟨l, hll, hl2⟩ := one_elem (α := Int) cs n (by omega) (fun v z => v = .int k z ∧ (Lit.int k z).wf = true) fun i hi => by
        obtain ⟨z, q1, _, q2⟩ := DataW.trod_int h2 ((hx i hi).trans (List.getElem?_eq_getElem (by omega)))
        exact ⟨z, _, q1, rfl, q2⟩
      refine ⟨l, ⟨hll, fun i z hz => ?_⟩, fun ρ => ⟨hll, .inl ⟨rfl, map_of_each (.int k) (hll.trans (by omega)) fun i v hv => ?_⟩⟩⟩
      · obtain ⟨v, hv⟩ : ∃ v, cs[i]? = some v := ⟨cs[i]'(by have := (List.getElem?_eq_some_iff.1 hz).1; omega), List.getElem?_eq_getElem _⟩
        obtain ⟨x, hx, _, hw⟩ := hl2 i v hv
        have hz : l[i]? = some z := hz
        rw [hx] at hz; cases hz; exact hw
      · obtain ⟨x, hx, e, _⟩ := hl2 i v hv
        exact ⟨x, hx, e⟩
  | arrB n =>
    intro x hT
    cases x with
    | inr y => exact hT.elim
    | inl t =>
      obtain ⟨e, h1, h2, h3, h4⟩ := hT
      intro fuel cs y h
      obtain ⟨xs, m, _, _, hl, hxs, hx⟩ := DataW.trod_array h1 h
      rw [h3] at hx
      obtain ⟨l, hll, hl2⟩ := one_elem (α := Bool) cs n (by omega) (fun v z => v = .bool z) fun i hi => by
        obtain ⟨z, q1, _⟩ := DataW.trod_bool h2 ((hx i hi).trans (List.getElem?_eq_getElem (by omega)))
        exact ⟨z, _, q1, rfl⟩
      exact ⟨l, hll, fun ρ => ⟨hll, .inl ⟨rfl, map_of_each .bool (hll.trans (by omega)) hl2⟩⟩⟩
  | arrS n =>
    intro x hT
    cases x with
    | inr y => exact hT.elim
    | inl t =>
      obtain ⟨e, h1, h2, h3, h4⟩ := hT
      intro fuel cs y h
      obtain ⟨xs, m, _, _, hl, hxs, hx⟩ := DataW.trod_array h1 h
      rw [h3] at hx
      obtain ⟨l, hll, hl2⟩ := one_elem (α := ByteArray) cs n (by omega) (fun v z => v = .string z ∧ z.size ≤ maxLen) fun i hi => by
        obtain ⟨z, q1, _, q2⟩ := DataW.trod_string h2 ((hx i hi).trans (List.getElem?_eq_getElem (by omega)))
        exact ⟨z, _, q1, rfl, q2⟩
      refine ⟨l, ⟨hll, fun i z hz => ?_⟩, fun ρ => ⟨hll, .inl ⟨rfl, map_of_each .string (hll.trans (by omega)) fun i v hv => ?_⟩⟩⟩
      · obtain ⟨v, hv⟩ : ∃ v, cs[i]? = some v := ⟨cs[i]'(by have := (List.getElem?_eq_some_iff.1 hz).1; omega), List.getElem?_eq_getElem _⟩
        obtain ⟨x, hx, _, hw⟩ := hl2 i v hv
        have hz : l[i]? = some z := hz
        rw [hx] at hz; cases hz; exact hw
      · obtain ⟨x, hx, e, _⟩ := hl2 i v hv
        exact ⟨x, hx, e⟩
  | nil =>
    intro x hT
    cases x with
    | inl t => exact hT.elim
    | inr y =>
      obtain ⟨off, fs⟩ := y
      intro cs h
      exact ⟨(), trivial, fun ρ => ⟨by simp, by simp [Sh.cells]⟩⟩
  | cons x r ih1 ih2 =>
    intro y hT
    cases y with
    | inl t => exact hT.elim
    | inr y =>
      obtain ⟨off, fs⟩ := y
      cases fs with
      | nil => exact hT.elim
      | cons f fs =>
        obtain ⟨h1, h2, h3, h4⟩ := hT
        intro cs h
        obtain ⟨fuel, z, hz⟩ := h 0 f rfl
        obtain ⟨v1, w1, r1⟩ := ih1 _ h3 fuel _ z hz
        obtain ⟨v2, w2, r2⟩ := ih2 _ h4 cs fun i g hg => h (i + 1) g (by simpa using hg)
        refine ⟨(v1, v2), ⟨w1, w2⟩, fun ρ => .inl ⟨rfl, _, _, ?_, r1 ρ, r2 ρ⟩⟩
        rw [h1, h2]
        simp only [Sh.cells]
        rw [List.take_add, List.drop_drop]
  | agg a ih =>
    intro x hT
    cases x with
    | inr y => exact hT.elim
    | inl t =>
      obtain ⟨fs, h1, h2, h3⟩ := hT
      intro fuel cs y h
      obtain ⟨xs, n, _, _, hl, hxs, hx⟩ := DataW.trod_struct h1 h
      obtain ⟨v, w, r⟩ := ih _ h3 cs fun i f hf => by
        have hi : i < fs.size := by have := (List.getElem?_eq_some_iff.1 hf).1; simpa using this
        exact ⟨n, _, (hx i f (by simpa using hf)).trans (List.getElem?_eq_getElem (by omega))⟩
      refine ⟨v, w, fun ρ => .inl ⟨rfl, ?_⟩⟩
      have := r ρ
      rwa [List.drop_zero, List.take_of_length_le (by omega)] at this
  | slice esz a ih =>
    intro x hT
    cases x with
    | inr y => exact hT.elim
    | inl t =>
      obtain ⟨e, h1, h2, h3, h4⟩ := hT
      intro fuel cs y h
      rcases DataW.trod_slice h1 h with ⟨rfl, _⟩ | ⟨ad, len, cap, elems, rest, n, _, rfl, _, hb, hlc, hcm, hel, he, _⟩
      · exact ⟨([] : List a.val), ⟨Nat.zero_le _, fun i x hx => by simp at hx⟩, fun ρ => ⟨none, 0, 0, ⟨by simp, rfl⟩, rfl, Nat.le_refl _, Nat.zero_le _, fun id h => (by cases h), fun h => (by omega)⟩⟩
      · rw [h2] at he
        have key : ∀ i, i < len → ∃ v : a.val, a.okV v ∧ ∃ c : List Value, c.length = esz ∧ (∀ q, q < esz → W.cell? ((ad.add (i * esz)).add q) = c[q]?) ∧ ∀ ρ, rel (memOf W) (a.mk fun _ => v) ρ .cells c := by
          intro i hi
          have hq := he i hi
          rw [List.getElem?_eq_getElem (by omega), Option.bind_eq_some_iff] at hq
          obtain ⟨c, k1, k2⟩ := hq
          obtain ⟨_, k3, k4⟩ := World.cells?_some k1
          obtain ⟨v, w, r⟩ := ih _ h4 n c _ k2
          exact ⟨v, w, c, k3, k4, r⟩
        have hlist : ∀ m, m ≤ len → ∃ l : List a.val, l.length = m ∧ ∀ i (hi : i < m), ∃ v, l[i]? = some v ∧ a.okV v ∧ ∃ c : List Value, c.length = esz ∧ (∀ q, q < esz → W.cell? ((ad.add (i * esz)).add q) = c[q]?) ∧ ∀ ρ, rel (memOf W) (a.mk fun _ => v) ρ .cells c := by
          intro m
          induction m with
          | zero => intro _; exact ⟨[], rfl, fun i hi => by omega⟩
          | succ m ihm =>
            intro hm
            obtain ⟨l, hl, hl2⟩ := ihm (by omega)
            obtain ⟨v, hv⟩ := key m (by omega)
            refine ⟨l ++ [v], by simp [hl], fun i hi => ?_⟩
            by_cases e : i = m
            · subst e
              exact ⟨v, by rw [List.getElem?_append_right (by omega)]; simp [hl], hv⟩
            · obtain ⟨v', q1, q2⟩ := hl2 i (by omega)
              exact ⟨v', by rw [List.getElem?_append_left (by omega)]; exact q1, q2⟩
        obtain ⟨l, hl, hl2⟩ := hlist len (Nat.le_refl _)
        refine ⟨l, ⟨by show l.length ≤ _; omega, fun i x hx => ?_⟩, fun ρ => ⟨some ad, len, cap, ⟨by simp, rfl⟩, by show (len : Int) = (l.length : Int); omega, hlc, hcm, fun id h => (by cases h), fun hpos => ?_⟩⟩
        · have hx : l[i]? = some x := hx
          obtain ⟨v, q1, q2, _⟩ := hl2 i (by have := (List.getElem?_eq_some_iff.1 hx).1; omega)
          rw [hx] at q1; cases q1; exact q2
        · obtain ⟨v0, _, _, c0, l0, q0, _⟩ := hl2 0 hpos
          have hspot : ad.spot = none := by
            have := q0 0 h3
            rw [List.getElem?_eq_getElem (by omega)] at this
            have e : (ad.add (0 * esz)).add 0 = ad := by simp [Addr.add]
            rw [e] at this
            unfold World.cell? at this
            split at this
            · split at this
              · cases this
              · rename_i hs; simpa using hs
            · cases this
          have had : ad = ⟨ad.block, ad.off, none⟩ := by cases ad; simp at hspot; subst hspot; rfl
          refine ⟨ad.block, ad.off, by rw [← had], fun j hj => ?_⟩
          obtain ⟨v, q1, q2, c, q3, q4, q5⟩ := hl2 j hj
          refine ⟨c, q3, ?_, fun q hq => ?_⟩
          · have e : List.getD (α := a.val) l ((j : Nat) : Int).toNat a.dflt = v := by
              rw [Int.toNat_natCast, List.getD_eq_getElem?_getD, q1]; rfl
            have := q5 noNames
            rw [← e] at this
            exact this
          · rw [← q4 q hq]
            have e : (ad.add (j * esz)).add q = ⟨ad.block, ad.off + j * esz + q, none⟩ := by
              rw [had]; unfold Addr.add; by_cases e1 : j * esz = 0 <;> by_cases e2 : q = 0 <;> simp [e1, e2]
            rw [e]; rfl
  | fn f => intro x hT; cases x <;> exact hT.elim
  | eptr esz a ih => intro x hT; cases x <;> exact hT.elim
  | fnv f a ih => intro x hT; cases x <;> exact hT.elim
end

/-! ### What is asked behind the call -/
section
open Go.ChangeShapes Go.WideShapes Go.RowKit
variable {H : Type} {enc : TypeId × Value → H}

/-- Can each be read, and is it a row of the table? -/
def argsRowed (P : Program) (ts : List TypeId) : Bool := ts.all fun t => P.readableRec t && decide (t < P.types.size)
theorem trodAll_stays (hl : laidOutB P = true) {W W' : World} (hb : Below W.heap.size W W') {sp' : Nat → Bool} : ∀ {ts : List TypeId} {vs : List Value} {ds : List (DataW H)} {ps : List MemPlace}, argsRowed P ts = true →
    DataW.TrodAll enc P W 0 (fun _ => true) true ts vs ds ps → (∀ p ∈ ps, p.block < W.heap.size) → (∀ p ∈ ps, sp' p.block = true) → DataW.TrodAll enc P W' 0 sp' true ts vs ds ps
  | [], vs, ds, ps, _, h, _, _ => by
    obtain ⟨rfl, rfl, rfl⟩ := trodAll_nil h
    exact rfl
  | t :: ts, vs, ds, ps, ha, h, hlt, hsp => by
    obtain ⟨v, vs1, d, ds1, a, b, rfl, rfl, rfl, h1, h2⟩ := trodAll_cons h
    simp only [argsRowed, List.all_cons, Bool.and_eq_true, decide_eq_true_eq] at ha
    refine ⟨a, b, WideElems.Trod_stays hl ha.1.1 ha.1.2 h1 (fun p hp => hb.same (hlt p (List.mem_append_left _ hp))) (fun p hp => hsp p (List.mem_append_left _ hp)), ?_, rfl⟩
    exact trodAll_stays hl hb (by simpa [argsRowed] using ha.2) h2 (fun p hp => hlt p (List.mem_append_right _ hp)) (fun p hp => hsp p (List.mem_append_right _ hp))

/-- A law's 'post': it answers true, and of what was there nothing has turned. -/
theorem law_post {f : Func} {s : ChangeSpec} {apart fresh handsOn again : Bool} {W W' : World} {args : Array Value} {ds gs : List (DataW H)} {before : List MemPlace}
    (hW : DataW.Whole enc P f.params.toList s.vars apart W args.toList ds gs before) (hv : s.vars = []) (hl : laidOutB P = true) (ha : argsRowed P f.params.toList = true)
    (hs : s.fn H ds = { results := [.lit (.bool true)], args := ds }) {tb : TypeId} (hr : f.resultTypes = #[tb]) (hb : P.underlying tb = some .bool) (hB : Below W.heap.size W W') :
    s.post enc P f apart fresh handsOn again W args (.bool true) W' := by
  have hW' := hW
  obtain ⟨p, q, hA, hV, rfl, hz, hn⟩ := hW
  rw [hv] at hV
  obtain ⟨rfl, rfl⟩ := trodVars_none hV
  have hs : s.fn H (ds ++ []) = { results := [.lit (.bool true)], args := ds } := by rw [List.append_nil]; exact hs
  have hlt : ∀ x ∈ p, x.block < W.heap.size := fun x hx => hW'.lt x (by simpa using hx)
  have hargs : ∀ sp : Nat → Bool, (∀ x ∈ p, sp x.block = true) → DataW.TrodAll enc P W' 0 sp true f.params.toList args.toList ds p := fun sp hsp => trodAll_stays hl hB ha hA hlt hsp
  have hres : ∀ (b : Nat) (sp : Nat → Bool) (hd : Bool), DataW.TrodAll enc P W' b sp hd f.resultTypes.toList ((Value.bool true).resultList f.resultTypes.size) [.lit (.bool true)] [] := fun b sp hd => by
    rw [hr]; exact trodAll_cons_mk (shut_bool hb _) trodAll_mk0
  have hvars : ∀ sp : Nat → Bool, DataW.TrodVars enc P W' sp s.vars ([] : List (DataW H)) [] := fun sp => by rw [hv]; exact rfl
  refine ⟨ds, [], p ++ [], [], p, [], hW', by rw [hs]; exact hres _ _ _, by rw [hs]; exact hargs _ (fun x hx => by simpa using hlt x hx), by rw [hs]; exact hvars _, World.keptBut_mono (fun x hx => ⟨hx, .inr (by simpa using hx)⟩) (hB.frame _), fun _ => ?_⟩
  refine ⟨ok_one hr rfl (okWide_bool_mk hb _), _, _, ([] ++ p) ++ [], ⟨[] ++ p, [], trodAll_append (hargs _ (fun _ _ => rfl)) (hres _ _ _), hvars _, rfl, ?_, ?_⟩, ?_⟩
  · intro b off hp
    rw [hB.frozen (hlt _ (by simpa using hp))]
    exact hz b off (by simpa using hp)
  · intro hap
    simpa using hn hap
  · intro x hx _
    simpa using hx

/-- A law's contract, out of what its walk says. -/
theorem law_calls {f : Nat} {args : PV} {W : World} {vs : List Value} (hp : PFun P G f args .tt) (hG : GOK G (memOf W)) (hr : rel (memOf W) args noNames .vals vs) :
    Calls P f vs.toArray W fun e W' => e = .returned (.bool true) ∧ Below W.heap.size W W' := by
  have hI : Inv (memOf W) noNames none0 W := ⟨fun b i v h => h, fun id o h => (by cases h), fun id id' o o' h => (by cases h), fun id id' o o' h => (by cases h), fun b o h => ⟨h, fun ⟨_, _, h, _⟩ => (by cases h)⟩⟩
  refine (hp.2 _ _ _ hG hI hr).mono ?_
  rintro e W' ⟨M', ρ', v, g', rfl, h1, h2⟩
  obtain ⟨_, h2⟩ := h2
  have hv : v = .bool true := by simpa using h2
  subst hv
  refine ⟨rfl, h1.os, h1.tape, h1.output, h1.size, fun b hb => h1.heap b hb ?_⟩
  rintro ⟨id, o, ho, _⟩
  cases ho
end
end Go.Abs
/- THE ROW, in general: an argument read, whatever its shape. -/
set_option linter.unusedVariables false
set_option linter.unusedSimpArgs false
namespace Go.Abs
variable {P : Program}
def Sh.wideT : Sh → Bool
  | .agg _ => true
  | .arrI _ _ => true
  | .arrB _ => true
  | .arrS _ => true
  | _ => false
def Sh.leafT : Sh → Bool
  | .int _ => true
  | .bool => true
  | .str => true
  | .slice _ _ => true
  | _ => false
theorem read_wide {W : World} {H : Type} {enc : TypeId × Value → H} {a : Sh} (ha : a.wideT = true) {t : TypeId} (ts : TS P a (.inl t)) {v : Value} {fuel : Nat} {y : DataW H × List MemPlace}
    (hv : Value.okWide P W .any 0 t v) (h : DataW.trod enc P W 0 (fun _ => true) true fuel t v.cells.toList = some y) :
    ∃ x : a.val, a.okV x ∧ rel (memOf W) (a.mk fun _ => x) noNames .val [v] := by
  obtain ⟨x, hx, hr⟩ := open_sh a _ ts fuel _ y h
  have hc : ∃ cs, v = .agg cs := by
    unfold Value.okWide at hv
    cases a <;> simp only [Sh.wideT, Bool.false_eq_true] at ha
    case agg b =>
      obtain ⟨fs, hu, _⟩ := ts
      rw [hu] at hv
      obtain ⟨cs, h, _⟩ := hv
      exact ⟨cs, h⟩
    all_goals
      obtain ⟨e, hu, _⟩ := ts
      rw [hu] at hv
      obtain ⟨cs, h, _⟩ := hv
      exact ⟨cs, h⟩
  obtain ⟨cs, rfl⟩ := hc
  have hw : (a.mk fun _ => x).wide = true := by
    cases a <;> simp only [Sh.wideT, Bool.false_eq_true] at ha <;> rfl
  have hr := wide_rel hw (hr noNames)
  have e : (Value.agg cs).cells.toList.toArray = cs := rfl
  rw [e] at hr
  exact ⟨x, hx, hr⟩
theorem read_leaf {W : World} {H : Type} {enc : TypeId × Value → H} {a : Sh} (ha : a.leafT = true) {t : TypeId} (ts : TS P a (.inl t)) {v : Value} {fuel : Nat} {y : DataW H × List MemPlace}
    (hv : Value.okWide P W .any 0 t v) (h : DataW.trod enc P W 0 (fun _ => true) true fuel t v.cells.toList = some y) :
    ∃ x : a.val, a.okV x ∧ rel (memOf W) (a.mk fun _ => x) noNames .val [v] := by
  obtain ⟨x, hx, hr⟩ := open_sh a _ ts fuel _ y h
  have hr := hr noNames
  have hv2 : v.cells.toList = [v] := by
    cases v with
    | agg cs =>
      exfalso
      unfold Value.okWide at hv
      cases a <;> simp only [Sh.leafT, Bool.false_eq_true] at ha
      case slice n b =>
        obtain ⟨e, hu, _⟩ := ts
        rw [hu] at hv
        have hv : Cell.okWide P W .any 0 t (.agg cs) := hv
        unfold Cell.okWide at hv
        rw [hu] at hv
        unfold Cell.ok at hv
        rw [hu] at hv
        cases hv
      all_goals
        have hu := ts
        unfold TS at hu
        rw [hu] at hv
        have hv : Cell.okWide P W .any 0 t (.agg cs) := hv
        unfold Cell.okWide at hv
        rw [hu] at hv
        unfold Cell.ok at hv
        rw [hu] at hv
        cases hv
    | _ => rfl
  rw [hv2] at hr
  refine ⟨x, hx, ?_⟩
  cases a <;> simp only [Sh.leafT, Bool.false_eq_true] at ha
  case slice n b =>
    obtain ⟨a, n, cap, ⟨_, e⟩, hrest⟩ := hr
    exact ⟨a, n, cap, ⟨by simp, e⟩, hrest⟩
  all_goals exact ⟨by simp, hr.2⟩
end Go.Abs
