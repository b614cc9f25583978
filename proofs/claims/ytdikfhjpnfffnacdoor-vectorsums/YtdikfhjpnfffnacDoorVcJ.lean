/- VECTORS: their texts. -/
import Derived.Test.YtdikfhjpnfffnacDoorVcI
set_option maxRecDepth 2000
set_option linter.unusedVariables false
set_option linter.unusedSimpArgs false
set_option linter.unusedVariables false
set_option linter.unusedSimpArgs false
namespace Go.Proofs.YtdikfhjpnfffnacDoor
open Go Go.Abs Go.Proofs
def vRest (c m h i : Nat) : List (List UInt8) := (if i ≤ 0 ∧ 0 < c then [sCpu ++ 61 :: atext (c * 1000000)] else []) ++ ((if i ≤ 1 ∧ 0 < m then [sMem ++ 61 :: btext (m * 1000000000)] else []) ++ (if i ≤ 2 ∧ 0 < h then [sHug ++ 61 :: btext (h * 1000000000)] else []))
def nmB (i : Nat) : ByteArray := [toB sCpu, toB sMem, toB sHug].getD i ByteArray.empty
def tdB (i : Nat) (n : Int) : ByteArray := if (i : Int) = 0 then toB (atext (n.toNat * 1000000)) else toB (btext (n.toNat * 1000000000))
theorem tx_len (v : Nat) (h : v ≤ mostA) : (toB (atext v)).size ≤ 30 ∧ (toB (btext v)).size ≤ 30 := by
  have ha : (atext v).length ≤ 30 := by
    unfold atext
    split
    · decide
    · rw [List.length_append]
      have h1 := dec_len (n := (thou 9 v).1) (k := 28) (Nat.lt_of_le_of_lt (Nat.le_trans (thou_le 9 v).1 h) (by decide)) (by omega)
      have h2 := (sufA_le (thou 9 v).2).1
      omega
  refine ⟨by rw [← size_toB]; exact ha, ?_⟩
  rw [← size_toB]
  show (btext v).length ≤ 30
  unfold btext
  split
  · exact ha
  · rw [List.length_append]
    have h1 := dec_len (n := (kibi 6 (v / 1000000000)).1) (k := 28) (Nat.lt_of_le_of_lt (Nat.le_trans (kibi_le 6 _).1 (Nat.le_trans (Nat.div_le_self _ _) h)) (by decide)) (by omega)
    have h2 := (sufA_le (kibi 6 (v / 1000000000)).2).2
    omega
def eqB : ByteArray := ⟨#[61]⟩
theorem eqB_key (l s : List UInt8) : ((toB l ++ eqB) ++ toB s).data.toList = l ++ 61 :: s := by simp [toB, eqB]
theorem w_most {n : Int} (hn : n ≤ 1125899906842624) : n.toNat * 1000000 ≤ mostA ∧ n.toNat * 1000000000 ≤ mostA :=
  have : n.toNat ≤ 1125899906842624 := by omega
  ⟨Nat.le_trans (Nat.mul_le_mul_right _ this) (by decide), Nat.le_trans (Nat.mul_le_mul_right _ this) (by decide)⟩
theorem vr0 (c m h : Nat) : vRest c m h 0 = (if 0 < c then [sCpu ++ 61 :: atext (c * 1000000)] else []) ++ vRest c m h 1 := by simp [vRest]
theorem vr1 (c m h : Nat) : vRest c m h 1 = (if 0 < m then [sMem ++ 61 :: btext (m * 1000000000)] else []) ++ vRest c m h 2 := by simp [vRest]
theorem vr2 (c m h : Nat) : vRest c m h 2 = (if 0 < h then [sHug ++ 61 :: btext (h * 1000000000)] else []) ++ vRest c m h 3 := by simp [vRest]
theorem vr3 (c m h : Nat) : vRest c m h 3 = [] := by
  unfold vRest
  rw [if_neg (fun hc => absurd hc.1 (by decide)), if_neg (fun hc => absurd hc.1 (by decide)), if_neg (fun hc => absurd hc.1 (by decide))]; rfl
theorem vrP (c m h : Nat) : vRest c m h 0 = vParts c m h := by
  rw [vr0, vr1, vr2, vr3, List.append_nil]; unfold vParts; rfl
theorem td0 (n : Int) : tdB 0 n = toB (atext (n.toNat * 1000000)) := if_pos rfl
theorem td1 (n : Int) : tdB 1 n = toB (btext (n.toNat * 1000000000)) := if_neg (by decide)
theorem td2 (n : Int) : tdB 2 n = toB (btext (n.toNat * 1000000000)) := if_neg (by decide)
structure PcS (c m h : Int) (i : Nat) (n : Int) : Prop where
  lo : 0 ≤ n ∧ n ≤ 1125899906842624
  nm : (nmB i).size ≤ 9
  td : (tdB i n).size ≤ 30
  yes : 0 < n → vRest c.toNat m.toNat h.toNat i = ((nmB i ++ eqB) ++ tdB i n).data.toList :: vRest c.toNat m.toNat h.toNat (i + 1)
  no : ¬ 0 < n → vRest c.toNat m.toNat h.toNat i = vRest c.toNat m.toNat h.toNat (i + 1)
theorem nm0 : nmB 0 = toB sCpu := rfl
theorem nm1 : nmB 1 = toB sMem := rfl
theorem nm2 : nmB 2 = toB sHug := rfl
theorem pc0 {c m h : Int} (hc : 0 ≤ c ∧ c ≤ 1125899906842624) : PcS c m h 0 c :=
  ⟨hc, by decide, by rw [td0]; exact (tx_len _ (w_most hc.2).1).1, fun hp => by rw [td0, nm0, eqB_key, vr0, if_pos (show 0 < c.toNat by omega)]; exact List.singleton_append, fun hp => by rw [vr0, if_neg (show ¬ 0 < c.toNat by omega)]; exact List.nil_append _⟩
theorem pc1 {c m h : Int} (hc : 0 ≤ m ∧ m ≤ 1125899906842624) : PcS c m h 1 m :=
  ⟨hc, by decide, by rw [td1]; exact (tx_len _ (w_most hc.2).2).2, fun hp => by rw [td1, nm1, eqB_key, vr1, if_pos (show 0 < m.toNat by omega)]; exact List.singleton_append, fun hp => by rw [vr1, if_neg (show ¬ 0 < m.toNat by omega)]; exact List.nil_append _⟩
theorem pc2 {c m h : Int} (hc : 0 ≤ h ∧ h ≤ 1125899906842624) : PcS c m h 2 h :=
  ⟨hc, by decide, by rw [td2]; exact (tx_len _ (w_most hc.2).2).2, fun hp => by rw [td2, nm2, eqB_key, vr2, if_pos (show 0 < h.toNat by omega)]; exact List.singleton_append, fun hp => by rw [vr2, if_neg (show ¬ 0 < h.toNat by omega)]; exact List.nil_append _⟩
theorem pc_step {c m h : Int} {i : Nat} (hi : i < 3) (hrr : (0 ≤ c ∧ c ≤ 1099511627776) ∧ (0 ≤ m ∧ m ≤ 1125899906842624) ∧ (0 ≤ h ∧ h ≤ 1125899906842624) ∧ h % 2097152 = 0) : PcS c m h i ([c, m, h].getD i 0) := by
  have this : i = 0 ∨ i = 1 ∨ i = 2 := by omega
  rcases this with rfl | rfl | rfl
  · exact pc0 ⟨hrr.1.1, by omega⟩
  · exact pc1 hrr.2.1
  · exact pc2 hrr.2.2.1
structure VtI (c m h : Int) (x : Nat × List ByteArray) : Prop where
  i : x.1 ≤ 3
  few : x.2.length ≤ x.1
  sz : ∀ y ∈ x.2, y.size ≤ 43
  e : x.2.map (fun y => y.data.toList) ++ vRest c.toNat m.toNat h.toNat x.1 = vParts c.toNat m.toNat h.toNat
def vtA (c m h : Int) (x : Nat × List ByteArray) : Env := [(11, .int .i64 fun _ => (x.1 : Int)), (10, .arrI .i64 3 fun _ => [c, m, h]), (3, .slice (some 1) 1 (fun _ => (x.2.length : Int)) fun j => .str fun _ => x.2.getD (j ()).toNat ByteArray.empty), (1, .ptr 0 0)]
def vtS (c m h : Int) : Store := [(1, .own 1 9), (0, .var (vP c m h))]
def ren12 : Nat → Nat := fun i => bif beqN i 1 then 2 else i
theorem vtext_ok (c m h : Int) (hr : vRight c m h = true) : PF 12 (.cons (vP c m h) .nil) (.str fun _ => toB (vText c.toNat m.toNat h.toNat)) := by
  refine (⟨Tryd.func12, rfl, rfl, rfl, ⟨rfl, rfl⟩, ok _⟩ : FN 12 Tryd.f12).treeS (mkO_ok Fl2_ok) false 40 (.no .any) rfl ?_
  conv => arg 5; cbv
  refine ⟨⟨by rw [hr]; rfl, trivial⟩, ?_⟩
  generalize hgoal : toB (vText c.toNat m.toNat h.toNat) = goal
  refine run_own (A := _) 3 1 9 (.str fun _ => ByteArray.empty) (by rfl) (by rfl) (by rfl) ?_
  have vt0 : ([] : List ByteArray).map (fun y => y.data.toList) ++ vRest c.toNat m.toNat h.toNat 0 = vParts c.toNat m.toNat h.toNat := by
    rw [vrP]; exact List.nil_append _
  refine run_inv (ι := Nat × List ByteArray) (fun x => 3 - x.1) (VtI c m h) (vtA c m h) (fun _ => vtS c m h) 2 (0, []) (fun i => i) (by rfl) (by rfl) ⟨Nat.zero_le _, Nat.le_refl _, (fun y hy => by cases hy), vt0⟩ ?_ ⟨impP_refl _, impP_refl _, impP_refl _, impP_refl _, trivial⟩ ⟨⟨rfl, rfl⟩, impP_refl _, trivial⟩
  have hrr := vRight_iff.1 hr
  intro x hx ih
  obtain ⟨i, ws⟩ := x
  have hi : i ≤ 3 := hx.i
  have hfew : ws.length ≤ i := hx.few
  have hsz : ∀ y ∈ ws, y.size ≤ 43 := hx.sz
  have he : ws.map (fun y => y.data.toList) ++ vRest c.toNat m.toNat h.toNat i = vParts c.toNat m.toNat h.toNat := hx.e
  have tn : ∀ n : Nat, ((n : Nat) : Int).toNat = n := fun n => Int.toNat_natCast n
  by_cases hlt : i < 3
  ·
    refine exploreS_ok (ok _) (mkO_ok Fl2_ok) (u := false) 30 (.yes .any) _ rfl ?_
    conv => arg 5; cbv
    simp only [tn]
    obtain ⟨p1, p2, p3, p4, p5⟩ := pc_step (c := c) (m := m) (h := h) hlt hrr
    generalize hn0 : [c, m, h].getD i 0 = n at *
    have hw : IntKind.i64.wrap ((i : Int) + 1) = ((i + 1 : Nat) : Int) := by rw [IntWalk.i64_in _ ⟨by omega, by omega⟩]; omega
    have s1 : eqB.size = 1 := rfl
    have hir : 0 ≤ (i : Int) ∧ (i : Int) < ((3 : Nat) : Int) := by omega
    have hir2 : 0 ≤ (i : Int) ∧ (i : Int) < 3 := by omega
    refine ⟨⟨decide_eq_true hir2.2, trivial⟩, ⟨hir, trivial⟩, fun g => ⟨⟨hir, ?_, ⟨hir2, p1⟩, ?_, ?_, (by show drawOK _ _ = true; decide +kernel), trivial⟩, ?_⟩, fun g => ?_⟩
    · show (nmB i).size + eqB.size ≤ 9223372036854775807
      omega
    · show (nmB i ++ eqB).size + (tdB i n).size ≤ 9223372036854775807
      rw [ByteArray.size_append]; omega
    · show 0 < 1 ∧ ((ws.length : Int) + 1) * 16 ≤ 140737488355328
      omega
    · have g := of_decide_eq_true g
      have p4 := p4 g
      refine ih (i + 1, ws ++ [(nmB i ++ eqB) ++ tdB i n]) ren12 ⟨by show i + 1 ≤ 3; omega, by show (ws ++ [_]).length ≤ i + 1; rw [List.length_append, List.length_singleton]; omega, ?_, ?_⟩ (by show 3 - (i + 1) < 3 - i; omega) (by rfl) ⟨⟨rfl, hw⟩, impP_refl _, push_imp .str (some 2) 1 ws ((nmB i ++ eqB) ++ tdB i n), impP_refl _, trivial⟩ ⟨⟨rfl, rfl⟩, impP_refl _, trivial⟩
      · intro y hy
        rcases List.mem_append.1 hy with hy | hy
        · exact hsz y hy
        · rw [List.mem_singleton] at hy
          subst hy
          rw [ByteArray.size_append, ByteArray.size_append]
          omega
      · show (ws ++ [_]).map (fun y : ByteArray => y.data.toList) ++ vRest c.toNat m.toNat h.toNat (i + 1) = _
        rw [← he, p4, List.map_append, List.append_assoc]; rfl
    · have g := of_decide_eq_false g
      have p5 := p5 g
      exact ih (i + 1, ws) (fun i => i) ⟨by show i + 1 ≤ 3; omega, by show ws.length ≤ i + 1; omega, hsz, by show _ ++ vRest c.toNat m.toNat h.toNat (i + 1) = _; rw [← p5]; exact he⟩ (by show 3 - (i + 1) < 3 - i; omega) (by rfl) ⟨⟨rfl, hw⟩, impP_refl _, impP_refl _, impP_refl _, trivial⟩ ⟨⟨rfl, rfl⟩, impP_refl _, trivial⟩
  ·
    have e3 : i = 3 := by omega
    refine exploreS_ok (ok _) (mkO_ok Fl2_ok) (u := false) 30 (.no .any) _ rfl ?_
    conv => arg 5; cbv
    have hv3 : vRest c.toNat m.toNat h.toNat i = [] := by
      unfold vRest
      rw [if_neg (fun hc => by omega), if_neg (fun hc => by omega), if_neg (fun hc => by omega)]; rfl
    rw [hv3, List.append_nil] at he
    have hj : ws ≠ [] → joinB ws ⟨#[44]⟩ = goal := fun hne => by
      rw [← hgoal]
      unfold vText joinB
      rw [← he, if_neg (by simpa using hne)]
      rfl
    have hjs := joinB_size (sep := ⟨#[44]⟩) hsz
    have s4 : (⟨#[44]⟩ : ByteArray).size = 1 := rfl
    rw [s4] at hjs
    have hmul : ws.length * (43 + 1) ≤ 3 * 44 := Nat.mul_le_mul (by omega) (by omega)
    refine ⟨⟨decide_eq_false (show ¬ ((i : Nat) : Int) < 3 by omega), trivial⟩, fun g => ⟨rfl, ?_⟩, fun g => ⟨⟨⟨?_, ?_⟩, fun j => trivial, trivial⟩, rfl, ?_⟩⟩
    · have g : ((ws.length : Nat) : Int) = 0 := beqT g
      have hw0 : ws = [] := List.length_eq_zero_iff.1 (by omega)
      subst hw0
      show (⟨#[45]⟩ : ByteArray) = goal
      rw [← hgoal]
      unfold vText
      rw [← he]; rfl
    · show (rdL (α := ByteArray) Sh.str.rd (fun _ => (ws.length : Int)) fun j => .str fun _ => ws.getD (j ()).toNat ByteArray.empty).length ≤ _
      rw [rdL_str]
      omega
    · show (joinB (rdL (α := ByteArray) Sh.str.rd (fun _ => (ws.length : Int)) fun j => .str fun _ => ws.getD (j ()).toNat ByteArray.empty) ⟨#[44]⟩).size ≤ _
      rw [rdL_str]
      omega
    · show joinB (rdL (α := ByteArray) Sh.str.rd (fun _ => (ws.length : Int)) fun j => .str fun _ => ws.getD (j ()).toNat ByteArray.empty) ⟨#[44]⟩ = goal
      rw [rdL_str]
      have g : ¬ ((ws.length : Nat) : Int) = 0 := beqF g
      exact hj fun hc => g (by rw [hc]; rfl)
end Go.Proofs.YtdikfhjpnfffnacDoor
