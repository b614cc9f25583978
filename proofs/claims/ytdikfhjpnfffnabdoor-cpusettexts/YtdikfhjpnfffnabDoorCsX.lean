/- A WIDE NUMBER's TEXT, by the document. -/
import Derived.Test.YtdikfhjpnfffnabDoorBase
import Derived.Test.YtdikfhjpnfffnabDoorGc
set_option maxRecDepth 2000
set_option linter.unusedVariables false
set_option linter.unusedSimpArgs false
set_option linter.unusedVariables false
set_option linter.unusedSimpArgs false
namespace Go.Proofs.YtdikfhjpnfffnabDoor
open Go Go.Abs Go.Proofs
/-- The digits of a wide number, so far. -/
def ofD (h l i : Nat) (k : Nat) : Nat := if k < 4 then (if k < i then dg l k else 0) else if k < 4 + i then dg h (k - 4) else 0
def ofD2 (h l i : Nat) (k : Nat) : Nat := if k < 4 then (if k < i + 1 then dg l k else 0) else if k < 4 + i then dg h (k - 4) else 0
theorem dg_low {h l k : Nat} (hl : l < 2 ^ 64) (hk : k < 4) : dg (h * 2 ^ 64 + l) k = dg l k := by
  unfold dg
  have : k = 0 ∨ k = 1 ∨ k = 2 ∨ k = 3 := by omega
  rcases this with rfl | rfl | rfl | rfl <;> omega
theorem dg_high {h l k : Nat} (hl : l < 2 ^ 64) : dg (h * 2 ^ 64 + l) (4 + k) = dg h k := by
  unfold dg
  rw [Nat.pow_add, ← Nat.div_div_eq_div_mul]
  congr 2
  omega
theorem dg_small {h k : Nat} (hh : h < 2 ^ 64) (hk : 4 ≤ k) : dg h k = 0 := by
  unfold dg
  obtain ⟨d, rfl⟩ : ∃ d, k = 4 + d := ⟨k - 4, by omega⟩
  rw [Nat.pow_add, ← Nat.div_div_eq_div_mul, show h / 65536 ^ 4 = 0 by omega, Nat.zero_div]
theorem ofD_four {h l k : Nat} (hh : h < 2 ^ 64) (hl : l < 2 ^ 64) (hk : k < 20) : ofD h l 4 k = dg (h * 2 ^ 64 + l) k := by
  unfold ofD
  by_cases k4 : k < 4
  · rw [if_pos k4, if_pos k4, dg_low hl k4]
  · obtain ⟨d, rfl⟩ : ∃ d, k = 4 + d := ⟨k - 4, by omega⟩
    rw [if_neg k4, dg_high hl, show 4 + d - 4 = d by omega]
    by_cases d4 : 4 + d < 4 + 4
    · rw [if_pos d4]
    · rw [if_neg d4, dg_small hh (by omega)]
def xoA (i : Int) : Env := [(4, .int .i64 fun _ => i), (3, .ptr 2 0), (2, .ptr 1 0), (1, .ptr 0 0)]
def xoS (h l : Nat) (i : Int) : Store := [(0, .var (.agg (.cons (.int .u64 fun _ => ((h / 65536 ^ i.toNat : Nat) : Int)) (.cons (.int .u64 fun _ => ((l / 65536 ^ i.toNat : Nat) : Int)) .nil)))), (1, .var (.arrI .u64 20 fun _ => List.replicate 20 0)), (2, .var (.arrI .u64 20 fun _ => rowOf (ofD h l i.toNat)))]
theorem ref1Of_ok (h l : Nat) (hh : h < 2 ^ 64) (hl : l < 2 ^ 64) : PF 61 (.cons (.agg (.cons (.int .u64 fun _ => (h : Int)) (.cons (.int .u64 fun _ => (l : Int)) .nil))) .nil) (.arrI .u64 20 fun _ => rowOf (dg (h * 2 ^ 64 + l))) := by
  refine (⟨Tryd.func61, rfl, rfl, rfl, ⟨rfl, rfl⟩, ok _⟩ : FN 61 Tryd.f61).tree (mkO_ok F0_ok) false 40 rfl ?_
  conv => arg 5; cbv
  refine run_inv (ι := Int) (fun i => (4 - i).toNat) (fun i => 0 ≤ i ∧ i ≤ 4) xoA (xoS h l) 3 0 (fun i => i) (by rfl) (by rfl) ⟨by omega, by omega⟩ ?_ ⟨impP_refl _, impP_refl _, impP_refl _, impP_refl _, trivial⟩ ⟨?_, impP_refl _, ?_, trivial⟩
  · intro i hi ih
    refine explore_ok (ok _) (mkO_ok F0_ok) (u := false) 20 _ rfl ?_
    conv => arg 5; cbv
    refine ⟨fun g => ?_, fun g => ?_⟩
    · have g : i < 4 := of_decide_eq_true g
      obtain ⟨m, rfl⟩ : ∃ m : Nat, i = m := ⟨i.toNat, by omega⟩
      have hw : IntKind.i64.wrap ((m : Int) + 1) = m + 1 := IntWalk.i64_in _ ⟨by omega, by omega⟩
      have hw4 : IntKind.i64.wrap (4 + (m : Int)) = 4 + m := IntWalk.i64_in _ ⟨by omega, by omega⟩
      have hn0 : ¬ (65536 : Int) = 0 := by decide
      have c1 : 0 ≤ (m : Int) ∧ (m : Int) < 20 := ⟨by omega, by omega⟩
      have c2 : 0 ≤ IntKind.i64.wrap (4 + (m : Int)) ∧ IntKind.i64.wrap (4 + (m : Int)) < 20 := by rw [hw4]; omega
      have e1 : ((m : Int) + 1).toNat = m + 1 := by omega
      have hdv : ∀ x : Nat, x < 2 ^ 64 → IntKind.u64.wrap (((x / 65536 ^ (m : Int).toNat : Nat) : Int).tdiv 65536) = ((x / 65536 ^ ((m : Int) + 1).toNat : Nat) : Int) := fun x hx => by
        rw [e1, Int.toNat_natCast]
        have := Nat.div_le_self x (65536 ^ m)
        have h2 := Nat.div_le_self (x / 65536 ^ m) 65536
        show IntKind.u64.wrap ((x / 65536 ^ m / 65536 : Nat) : Int) = _
        rw [u64_wrap (by omega), Nat.pow_succ, Nat.div_div_eq_div_mul]
      refine ⟨⟨hn0, c1, c1, hn0, c2, c2, hn0, hn0, trivial⟩, ih (m + 1) (fun i => i) ⟨by omega, by omega⟩ (by omega) (by rfl) ⟨⟨rfl, hw⟩, impP_refl _, impP_refl _, impP_refl _, trivial⟩ ⟨⟨⟨rfl, hdv h hh⟩, ⟨rfl, hdv l hl⟩, rfl⟩, impP_refl _, ⟨rfl, rfl, ?_⟩, trivial⟩⟩
      show ((rowOf (ofD h l (m : Int).toNat)).set (m : Int).toNat ((dg l (m : Int).toNat : Nat) : Int)).set (IntKind.i64.wrap (4 + (m : Int))).toNat ((dg h (m : Int).toNat : Nat) : Int) = rowOf (ofD h l ((m : Int) + 1).toNat)
      rw [hw4, e1, Int.toNat_natCast, show (4 + (m : Int)).toNat = 4 + m by omega]
      have s1 : (rowOf (ofD h l m)).set m ((dg l m : Nat) : Int) = rowOf (ofD2 h l m) := by
        have := rowOf_set (f := ofD h l m) (g := ofD2 h l m) (j := m) (by omega) fun k hk hne => by
          unfold ofD ofD2
          by_cases k4 : k < 4
          · rw [if_pos k4, if_pos k4]
            by_cases km : k < m
            · rw [if_pos km, if_pos (by omega)]
            · rw [if_neg km, if_neg (by omega)]
          · rw [if_neg k4, if_neg k4]
        rwa [show ofD2 h l m m = dg l m by unfold ofD2; rw [if_pos (by omega), if_pos (by omega)]] at this
      have s2 : (rowOf (ofD2 h l m)).set (4 + m) ((dg h m : Nat) : Int) = rowOf (ofD h l (m + 1)) := by
        have := rowOf_set (f := ofD2 h l m) (g := ofD h l (m + 1)) (j := 4 + m) (by omega) fun k hk hne => by
          unfold ofD ofD2
          by_cases k4 : k < 4
          · rw [if_pos k4, if_pos k4]
          · rw [if_neg k4, if_neg k4]
            by_cases km : k < 4 + m
            · rw [if_pos km, if_pos (by omega)]
            · rw [if_neg km, if_neg (by omega)]
        rwa [show ofD h l (m + 1) (4 + m) = dg h m by unfold ofD; rw [if_neg (by omega), if_pos (by omega), show 4 + m - 4 = m by omega]] at this
      rw [s1, s2]
    · have g : ¬ i < 4 := of_decide_eq_false g
      have e : i = 4 := by omega
      subst e
      exact ⟨rfl, rfl, rfl, rowOf_ext fun k hk => ofD_four hh hl hk⟩
  · exact ⟨⟨rfl, by simp⟩, ⟨rfl, by simp⟩, rfl⟩
  · exact ⟨rfl, rfl, by
      show List.replicate 20 0 = rowOf (ofD h l 0)
      rw [← rowOf_zero]
      refine rowOf_ext fun k hk => ?_
      unfold ofD
      by_cases k4 : k < 4
      · rw [if_pos k4, if_neg (by omega)]
      · rw [if_neg k4, if_neg (by omega)]⟩
def shWide : Sh := .agg (.cons (.int .u64) (.cons (.int .u64) .nil))
noncomputable def Fx1 : Table := addS 61 (.cons shWide .nil) (fun h l => (.arrI .u64 20 fun _ => rowOf (dg ((h ()).toNat * 2 ^ 64 + (l ()).toNat)), [fun _ => (0 ≤ h () ∧ h () < 2 ^ 64) ∧ 0 ≤ l () ∧ l () < 2 ^ 64])) F0
theorem Fx1_ok : TableOK Tryd.prog G0 Fx1 := by
  refine addS_ok (⟨Tryd.func61, rfl, rfl, rfl, ⟨rfl, rfl⟩, ok _⟩ : FN 61 Tryd.f61).callable (fun h l c => ?_) F0_ok
  have := ref1Of_ok (h ()).toNat (l ()).toNat (by have := c.1; omega) (by have := c.1; omega)
  rw [show (((h ()).toNat : Nat) : Int) = h () by have := c.1; omega, show (((l ()).toNat : Nat) : Int) = l () by have := c.1; omega] at this
  exact this
structure XI (v0 : Nat) (x : Nat × List UInt8) : Prop where
  lt : x.1 < 65536 ^ 20
  all : leftT x.1 x.2 = Lib.decDigits v0
  few : x.1 * 10 ^ x.2.length ≤ v0
def xtA (x : Nat × List UInt8) : Env := [(4, .str fun _ => toB x.2), (3, .ptr 1 0), (2, .str fun _ => ⟨#[]⟩)]
def xtS (x : Nat × List UInt8) : Store := [(1, .var (.arrI .u64 20 fun _ => rowOf (dg x.1)))]
/-- The digits while they are divided. -/
def xiF (v : Nat) (i : Int) (k : Nat) : Nat := if i < (k : Int) then dg (v / 10) k else dg v k
def xiA (x : Nat × List UInt8) (i : Int) : Env := [(6, .int .i64 fun _ => i), (5, .int .u64 fun _ => ((x.1 / 65536 ^ (i + 1).toNat % 10 : Nat) : Int)), (4, .str fun _ => toB x.2), (3, .ptr 1 0), (2, .str fun _ => ⟨#[]⟩)]
def xiS (x : Nat × List UInt8) (i : Int) : Store := [(1, .var (.arrI .u64 20 fun _ => rowOf (xiF x.1 i)))]
theorem xi_start {v : Nat} (h : v < 65536 ^ 20) : (0 : Int) = ((v / 65536 ^ ((19 : Int) + 1).toNat % 10 : Nat) : Int) ∧ rowOf (dg v) = rowOf (xiF v 19) := by
  refine ⟨?_, rowOf_ext fun k hk => ?_⟩
  · rw [show ((19 : Int) + 1).toNat = 20 from rfl, Nat.div_eq_of_lt h]; rfl
  · unfold xiF; rw [if_neg (by omega)]
theorem xi_step {v m : Nat} (hm : m < 20) :
    (IntKind.u64.wrap (IntKind.u64.wrap (((v / 65536 ^ ((m : Int) + 1).toNat % 10 : Nat) : Int) * 65536) + (rowOf (xiF v m)).getD (m : Int).toNat 0)).tmod 10 = ((v / 65536 ^ ((m : Int) - 1 + 1).toNat % 10 : Nat) : Int) ∧
    (rowOf (xiF v m)).set (m : Int).toNat (IntKind.u64.wrap ((IntKind.u64.wrap (IntKind.u64.wrap (((v / 65536 ^ ((m : Int) + 1).toNat % 10 : Nat) : Int) * 65536) + (rowOf (xiF v m)).getD (m : Int).toNat 0)).tdiv 10)) = rowOf (xiF v ((m : Int) - 1)) := by
  have hg : (rowOf (xiF v m)).getD (m : Int).toNat 0 = ((dg v m : Nat) : Int) := by
    rw [Int.toNat_natCast, rowOf_get hm]
    unfold xiF; rw [if_neg (by omega)]
  have hd := dg_lt v m
  have hr : v / 65536 ^ (m + 1) % 10 < 10 := Nat.mod_lt _ (by omega)
  have e : IntKind.u64.wrap (IntKind.u64.wrap (((v / 65536 ^ ((m : Int) + 1).toNat % 10 : Nat) : Int) * 65536) + (rowOf (xiF v m)).getD (m : Int).toNat 0) = ((v / 65536 ^ (m + 1) % 10 * 65536 + dg v m : Nat) : Int) := by
    rw [hg, show ((m : Int) + 1).toNat = m + 1 by omega]
    generalize v / 65536 ^ (m + 1) % 10 = r at hr ⊢
    rw [show (r : Int) * 65536 = ((r * 65536 : Nat) : Int) by omega, u64_wrap (by omega), show ((r * 65536 : Nat) : Int) + ((dg v m : Nat) : Int) = ((r * 65536 + dg v m : Nat) : Int) by omega, u64_wrap (by omega)]
  rw [e]
  refine ⟨?_, ?_⟩
  · show (((v / 65536 ^ (m + 1) % 10 * 65536 + dg v m) % 10 : Nat) : Int) = _
    rw [dg_rest, show ((m : Int) - 1 + 1).toNat = m by omega]
  · show (rowOf (xiF v m)).set (m : Int).toNat (IntKind.u64.wrap (((v / 65536 ^ (m + 1) % 10 * 65536 + dg v m) / 10 : Nat) : Int)) = _
    have hq := dg_lt (v / 10) m
    rw [dg_quot, u64_wrap (by omega), Int.toNat_natCast]
    have := rowOf_set (f := xiF v m) (g := xiF v ((m : Int) - 1)) (j := m) hm fun k hk hne => by
      unfold xiF
      by_cases h1 : (m : Int) < (k : Int)
      · rw [if_pos h1, if_pos (by omega)]
      · rw [if_neg h1, if_neg (by omega)]
    rwa [show xiF v ((m : Int) - 1) m = dg (v / 10) m by unfold xiF; rw [if_pos (by omega)]] at this
theorem ref1Text_ok (h l : Int) (hh : 0 ≤ h ∧ h < 2 ^ 64) (hl : 0 ≤ l ∧ l < 2 ^ 64) : PF 52 (.cons (.agg (.cons (.int .u64 fun _ => h) (.cons (.int .u64 fun _ => l) .nil))) .nil) (.str fun _ => toB (Lib.decDigits (h.toNat * 2 ^ 64 + l.toNat))) := by
  refine (⟨Tryd.func52, rfl, rfl, rfl, ⟨rfl, rfl⟩, ok _⟩ : FN 52 Tryd.f52).tree (mkO_ok Fx1_ok) false 40 rfl ?_
  conv => arg 5; cbv
  refine ⟨⟨⟨hh, hl⟩, trivial⟩, ?_⟩
  have hv0 : h.toNat * 2 ^ 64 + l.toNat < 2 ^ 128 := by omega
  generalize hv : h.toNat * 2 ^ 64 + l.toNat = v0 at hv0
  refine run_inv (ι := Nat × List UInt8) (fun x => 2 * x.1 + (if x.2 = [] then 1 else 0)) (XI v0) xtA xtS 2 (v0, []) (fun i => i) (by rfl) (by rfl) ⟨by show v0 < _; omega, leftT_start v0, by show v0 * 1 ≤ v0; omega⟩ ?_ ⟨impP_refl _, impP_refl _, impP_refl _, trivial⟩ ⟨⟨rfl, rfl, rfl⟩, trivial⟩
  intro x hx ih
  refine explore_ok (ok _) (mkO_ok Fx1_ok) (u := false) 20 _ rfl ?_
  conv => arg 5; cbv
  refine tree_if (¬ (x.1 = 0 ∧ x.2 ≠ [])) (xiA x 19) (xiS x 19) 2 (by rfl) ?_ ?_
  · refine ⟨fun g => ⟨?_, rfl, fun i => i, by rfl, ⟨impP_refl _, ⟨rfl, ?_⟩, impP_refl _, impP_refl _, impP_refl _, trivial⟩, ⟨⟨rfl, rfl, ?_⟩, trivial⟩⟩, fun g => ⟨fun g2 => ⟨?_, rfl, fun i => i, by rfl, ⟨impP_refl _, ⟨rfl, ?_⟩, impP_refl _, impP_refl _, impP_refl _, trivial⟩, ⟨⟨rfl, rfl, ?_⟩, trivial⟩⟩, fun g2 => ?_⟩⟩
    · have g : toB x.2 = ⟨#[]⟩ := of_decide_eq_true g
      intro hn
      apply hn.2
      have := congrArg (fun b => b.data.toList) g
      simpa [toB] using this
    · exact (xi_start hx.lt).1
    · exact (xi_start hx.lt).2
    · have g2 : (!decide (rowOf (dg x.1) = List.replicate 20 0)) = true := g2
      intro hn
      rw [hn.1] at g2
      rw [show rowOf (dg 0) = List.replicate 20 0 by decide] at g2
      simp at g2
    · exact (xi_start hx.lt).1
    · exact (xi_start hx.lt).2
    · have g : ¬ toB x.2 = ⟨#[]⟩ := of_decide_eq_false g
      have g2 : (!decide (rowOf (dg x.1) = List.replicate 20 0)) = false := g2
      have g2 : rowOf (dg x.1) = List.replicate 20 0 := by simpa using g2
      have h0 := rowOf_all hx.lt g2
      have hall := hx.all
      rw [leftT_end _ _ ⟨h0, fun e => g (by rw [e]; rfl)⟩] at hall
      exact ⟨rfl, by show toB x.2 = _; rw [hall]⟩
  intro hnot
  refine run_inv (ι := Int) (fun i => (i + 1).toNat) (fun i => -1 ≤ i ∧ i ≤ 19) (xiA x) (xiS x) 2 19 (fun i => i) (by rfl) (by rfl) ⟨by omega, by omega⟩ ?_ ⟨impP_refl _, impP_refl _, impP_refl _, impP_refl _, impP_refl _, trivial⟩ ⟨impP_refl _, trivial⟩
  intro i hi ihi
  refine explore_ok (ok _) (mkO_ok Fx1_ok) (u := false) 20 _ rfl ?_
  conv => arg 5; cbv
  refine ⟨fun g => ?_, fun g => ?_⟩
  · have g : 0 ≤ i := of_decide_eq_true g
    obtain ⟨m, rfl⟩ : ∃ m : Nat, i = m := ⟨i.toNat, by omega⟩
    have c1 : 0 ≤ (m : Int) ∧ (m : Int) < 20 := ⟨by omega, by omega⟩
    have hn0 : ¬ (10 : Int) = 0 := by decide
    have hw : IntKind.i64.wrap ((m : Int) - 1) = m - 1 := IntWalk.i64_in _ ⟨by omega, by omega⟩
    obtain ⟨s1, s2⟩ := xi_step (v := x.1) (m := m) (by omega)
    refine ⟨⟨c1, c1, hn0, c1, c1, hn0, trivial⟩, ihi (m - 1) (fun i => i) ⟨by omega, by omega⟩ (by omega) (by rfl) ⟨⟨rfl, hw⟩, ⟨rfl, s1⟩, impP_refl _, impP_refl _, impP_refl _, trivial⟩ ⟨⟨rfl, rfl, s2⟩, trivial⟩⟩
  · have g : ¬ 0 ≤ i := of_decide_eq_false g
    have e : i = -1 := by omega
    subst e
    have hr : x.1 / 65536 ^ ((-1 : Int) + 1).toNat % 10 = x.1 % 10 := by
      rw [show ((-1 : Int) + 1).toNat = 0 from rfl, Nat.pow_zero, Nat.div_one]
    have hb : bytesOf (rdL rd8 (fun _ => 1) fun _ => PV.int .u8 fun _ => IntKind.u8.wrap (IntKind.u64.wrap (48 + ((x.1 / 65536 ^ ((-1 : Int) + 1).toNat % 10 : Nat) : Int)))) = toB [UInt8.ofNat (48 + x.1 % 10)] := by
      rw [hr]
      have : x.1 % 10 < 10 := Nat.mod_lt _ (by omega)
      rw [show (48 : Int) + ((x.1 % 10 : Nat) : Int) = ((48 + x.1 % 10 : Nat) : Int) by omega, u64_wrap (by omega), IntWalk.u8_in _ ⟨by omega, by omega⟩]
      show bytesOf [((48 + x.1 % 10 : Nat) : Int)] = _
      unfold bytesOf
      simp only [List.foldl_cons, List.foldl_nil, Int.toNat_natCast]
      rfl
    have hlen : (toB x.2).size ≤ 40 := by
      have hfew := hx.few
      by_cases h0 : x.1 = 0
      · have : x.2 = [] := Classical.byContradiction fun h => hnot ⟨h0, h⟩
        rw [this]; decide
      · have h1 : 10 ^ x.2.length ≤ x.1 * 10 ^ x.2.length := Nat.le_mul_of_pos_left _ (by omega)
        have h2 : x.2.length < 40 := by
          apply Classical.byContradiction
          intro hc
          have : 10 ^ 40 ≤ 10 ^ x.2.length := Nat.pow_le_pow_right (by omega) (by omega)
          omega
        show (x.2.toArray).size ≤ 40
        simp; omega
    refine ⟨⟨fun j => rfl, ?_, trivial⟩, ih (x.1 / 10, UInt8.ofNat (48 + x.1 % 10) :: x.2) (fun i => i) ⟨?_, ?_, ?_⟩ ?_ (by rfl) ⟨?_, impP_refl _, impP_refl _, trivial⟩ ⟨⟨rfl, rfl, ?_⟩, trivial⟩⟩
    · show (bytesOf (rdL rd8 (fun _ => 1) fun _ => PV.int .u8 fun _ => IntKind.u8.wrap (IntKind.u64.wrap (48 + ((x.1 / 65536 ^ ((-1 : Int) + 1).toNat % 10 : Nat) : Int))))).size + (toB x.2).size ≤ 9223372036854775807
      rw [hb]
      have : (toB [UInt8.ofNat (48 + x.1 % 10)]).size = 1 := rfl
      omega
    · have := hx.lt
      show x.1 / 10 < _
      omega
    · show leftT (x.1 / 10) (UInt8.ofNat (48 + x.1 % 10) :: x.2) = _
      rw [leftT_step _ _ hnot, hx.all]
    · have hfew := hx.few
      show x.1 / 10 * 10 ^ (x.2.length + 1) ≤ v0
      have : x.1 / 10 * 10 ≤ x.1 := Nat.div_mul_le_self _ _
      calc x.1 / 10 * 10 ^ (x.2.length + 1) = x.1 / 10 * 10 * 10 ^ x.2.length := by rw [Nat.pow_succ, Nat.mul_assoc, Nat.mul_comm (10 ^ x.2.length) 10]
        _ ≤ x.1 * 10 ^ x.2.length := Nat.mul_le_mul_right _ this
        _ ≤ v0 := hfew
    · show 2 * (x.1 / 10) + (if UInt8.ofNat (48 + x.1 % 10) :: x.2 = [] then 1 else 0) < 2 * x.1 + (if x.2 = [] then 1 else 0)
      rw [if_neg (by simp)]
      by_cases h0 : x.1 = 0
      · have : x.2 = [] := Classical.byContradiction fun h => hnot ⟨h0, h⟩
        rw [if_pos this]; omega
      · omega
    · show bytesOf _ ++ toB x.2 = toB (UInt8.ofNat (48 + x.1 % 10) :: x.2)
      rw [hb]
      unfold toB
      apply ByteArray.ext
      simp
    · refine rowOf_ext fun k hk => ?_
      unfold xiF
      rw [if_pos (by omega)]
end Go.Proofs.YtdikfhjpnfffnabDoor
