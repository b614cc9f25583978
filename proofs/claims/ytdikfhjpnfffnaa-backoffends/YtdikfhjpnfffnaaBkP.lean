/- BACKOFF (4): the names, walked over. -/
import Derived.Test.YtdikfhjpnfffnaaBkN
set_option maxRecDepth 2000
set_option linter.unusedVariables false
set_option linter.unusedSimpArgs false
set_option linter.unusedVariables false
set_option linter.unusedSimpArgs false
namespace Go.Proofs.Ytdikfhjpnfffnaa
open Go Go.Abs Go.Proofs
def sortedE (args : PV) (g : Sto) : Option SRes := match args with
  | .cons (.func (.func f) .nil (.cons (.ptr id 0) .nil)) .nil => bif beqN f 30 then (match g id with
    | some (.var (.map m)) => match g m with
      | some (.map .str (.agg (.cons (.int .i64) (.cons (.int .i64) .nil))) l) => some { ids := [id, m], args := .cons (.func (.func 30) .nil (.cons (.ptr 0 0) .nil)) .nil, S := [(0, .var (.map 1)), (1, .map .str shRow l)], r := Sh.mkL 1 .str fun _ => sortedN (l ()), W := [(0, .var (.map 1)), (1, .map .str shRow l)], C := [fun _ => (∀ x ∈ l (), (x.1 : ByteArray).size ≤ Go.maxLen) ∧ (l ()).length ≤ 1000000] }
      | _ => none
    | _ => none) else none
  | _ => none
theorem sortedE_ok {args : PV} {g : Sto} {x : SRes} (h : sortedE args g = some x) : SGood Try.prog G0 24 args g x := by
  unfold sortedE at h
  split at h
  · rename_i f id
    cases hb : beqN f 30 with
    | false => rw [hb] at h; cases h
    | true =>
      obtain rfl : f = 30 := by simpa using hb
      rw [hb, cond_true] at h
      split at h
      · rename_i m hm
        split at h
        · rename_i l hl
          obtain rfl := Option.some.inj h
          refine ⟨fun hC => sorted_ok (l ()) hC.1.1 hC.1.2, impP_refl _, ?_, ?_, trivial⟩
          · show impO _ (g id) _
            rw [hm]; exact impP_refl (.map m)
          · show impO _ (g m) _
            rw [hl]; exact rfl
        · cases h
      · cases h
  · cases h
noncomputable def Hb2 : STable := addM 24 sortedE Hb1
theorem Hb2_ok : STableOK Try.prog G0 Hb2 := addM_ok (fun _ _ _ h => sortedE_ok h) Hb1_ok
noncomputable def Bb3 : BTable := (addI 25 (ctx Try.f25) (mkM Fb1 Hb2) (callB emptyB) false (body Try.f25) 60 (addI 26 (ctx Try.f26) (mkM Fb1 Hb2) (callB emptyB) false (body Try.f26) 60 Bb2))
theorem Bb3_ok : BTableOK Try.prog G0 Bb3 := (addI_ok (⟨Try.func25, rfl, rfl, rfl, ⟨rfl, rfl⟩, ok _⟩ : FN 25 Try.f25) (mkM_ok Fb1_ok Hb2_ok) (callB_ok emptyB_ok) (addI_ok (⟨Try.func26, rfl, rfl, rfl, ⟨rfl, rfl⟩, ok _⟩ : FN 26 Try.f26) (mkM_ok Fb1_ok Hb2_ok) (callB_ok emptyB_ok) Bb2_ok))
noncomputable def Bb4 : BTable := (addI 21 (ctx Try.f21) (mkM Fb1 Hb2) (callB Bb3) false (body Try.f21) 60 Bb3)
theorem Bb4_ok : BTableOK Try.prog G0 Bb4 := (addI_ok (⟨Try.func21, rfl, rfl, rfl, ⟨rfl, rfl⟩, ok _⟩ : FN 21 Try.f21) (mkM_ok Fb1_ok Hb2_ok) (callB_ok Bb3_ok) Bb3_ok)
def vlS (l : List ByteArray) : Store := [(0, .var (Sh.mkL 1 .str fun _ => l))]
theorem take_imp {l : List ByteArray} {k : Nat} {i : Int} {tok : Option Nat} (h : i = ((l.take k).length : Int)) : impP (.slice tok 1 (fun _ => i) fun j => .str fun _ => l.getD (j ()).toNat ByteArray.empty) (Sh.mkL 1 .str fun _ => l.take k) := by
  refine ⟨.inl rfl, rfl, h, fun j h0 h1 => ?_⟩
  have h1 : j < i := h1
  show l.getD j.toNat ByteArray.empty = (l.take k).getD j.toNat ByteArray.empty
  have hl : j.toNat < (l.take k).length := by omega
  rw [List.getD_eq_getElem?_getD, List.getD_eq_getElem?_getD, List.getElem?_take_of_lt (by rw [List.length_take] at hl; omega)]
def vsA (Y : Yd) (l : List ByteArray) (i : Nat) : Env := [(7, .int .i64 fun _ => (i : Int)), (6, .int .i64 fun _ => (l.length : Int)), (5, Sh.mkL 1 .str fun _ => l), (0, .func (.yield Y.l) .nil .nil), (1, .ptr 0 0)]
def vsS (Y : Yd) (l : List ByteArray) (i : Nat) : Store := [(1, .ghost Y (fun _ => false) fun _ => (i : Int)), (0, .var (Sh.mkL 1 .str fun _ => l))]
theorem values_seq (l : List ByteArray) (hl : l.length < 9223372036854775807) : SeqFun Try.prog G0 31 (.cons (.ptr 0 0) .nil) (vlS l) 1 (l.length : Int) (fun i => .cons (.str fun _ => l.getD i.toNat ByteArray.empty) .nil) := by
  intro Y hL hx hlaw
  refine (⟨Try.func31, rfl, rfl, rfl, ⟨rfl, rfl⟩, ok _⟩ : FN 31 Try.f31).stree (orX_ok (yieldX_ok 1) (mkO_ok F0_ok)) false 40 rfl ?_
  conv => arg 5; cbv
  refine run_inv (ι := Nat) (fun i => l.length - i) (fun i => i ≤ l.length) (vsA Y l) (vsS Y l) 2 0 (fun i => i) (by rfl) (by rfl) (by omega) ?_ ⟨impP_refl _, impP_refl _, impP_refl _, impP_refl _, impP_refl _, trivial⟩ ⟨⟨rfl, rfl, rfl⟩, impP_refl _, trivial⟩
  intro i hi ih
  refine explore_ok ((ok _).at 2) (orX_ok (yieldX_ok 1) (mkO_ok F0_ok)) (u := false) 20 _ rfl ?_
  conv => arg 5; cbv
  refine ⟨fun h => ?_, fun h => ?_⟩
  · have h : (i : Int) < (l.length : Int) := of_decide_eq_true h
    refine ⟨⟨⟨Int.natCast_nonneg i, h⟩, ⟨rfl, rfl, Int.natCast_nonneg i, by rw [hL]; exact h, by rw [hx]; exact impP_refl _, hlaw⟩, trivial⟩, fun h3 => ?_, fun h3 => ?_⟩
    · exact ⟨_, _, rfl, .inl (by simpa using h3)⟩
    · have hw : IntKind.i64.wrap ((i : Int) + 1) = ((i + 1 : Nat) : Int) := by rw [IntWalk.i64_in _ ⟨by omega, by omega⟩]; omega
      refine ih (i + 1) (fun i => i) (by omega) (by omega) (by rfl) ⟨⟨rfl, hw⟩, impP_refl _, impP_refl _, impP_refl _, impP_refl _, trivial⟩ ⟨⟨rfl, ?_, ?_⟩, impP_refl _, trivial⟩
      · show Y.st (i : Int) = false
        simpa using h3
      · show (i : Int) + 1 = ((i + 1 : Nat) : Int)
        omega
  · have h : ¬ (i : Int) < (l.length : Int) := of_decide_eq_false h
    exact ⟨_, _, rfl, .inr (show (i : Int) = (l.length : Int) by omega)⟩
def nmS (most : Int) (l : RowL) (n i : Int) : Store := [(0, .var (tabP most 1)), (1, .map .str shRow fun _ => l), (2, .var (i64 n)), (3, .var (.slice (some 8) 1 (fun _ => i) fun j => .str fun _ => (sortedN l).getD (j ()).toNat ByteArray.empty)), (8, .own 1 9)]
def ren86 (k : Nat) : Nat → Nat := fun i => bif beqN i 8 then k else i
theorem names_ok (most : Int) (l : RowL) (n : Int) (hs : ∀ x ∈ l, (x.1 : ByteArray).size ≤ Go.maxLen) (hl : l.length ≤ 1000000) : SFun Try.prog G0 14 (.cons (.ptr 0 0) (.cons (i64 n) .nil)) (tabS most l) 2 (QR 2 (Sh.mkL 1 .str fun _ => (sortedN l).take n.toNat) (tabS most l)) := by
  refine (⟨Try.func14, rfl, rfl, rfl, ⟨rfl, rfl⟩, ok _⟩ : FN 14 Try.f14).streeB (mkM_ok Fb1_ok Hb2_ok) (callB_ok Bb4_ok) false 60 (.any) rfl ?_
  conv => arg 5; cbv
  refine ⟨⟨⟨hs, hl⟩, trivial⟩, ?_⟩
  refine run_ownS 3 1 9 (.str fun _ => ByteArray.empty) (by rfl) (by rfl) (by rfl) (by rfl) ?_
  have hlen : (sortedN l).length = l.length := by simp [sortedN, keysL]
  have hseq := values_seq (sortedN l) (by rw [hlen]; omega)
  generalize hc : ((sortedN l).length : Int) = L at hseq
  refine run_range ((ok _).at 2) rfl hseq (fun _ => 5) 7 9 [(5, .ptr 3 0), (3, .ptr 2 0)] (ren86 6) (fun i => 0 ≤ i ∧ i ≤ L ∧ (i = 0 ∨ i ≤ n)) (fun i => 0 ≤ i ∧ i < L ∧ (i = 0 ∨ i ≤ n) ∧ n ≤ i) (nmS most l n) (nmS most l n) (fun i => decide (n ≤ i)) (fun _ => .exit 0)
    (by rfl) (by rfl) (fun h => by cases h) (impP_refl _) ⟨impP_refl _, trivial⟩ ⟨impP_refl _, impP_refl _, trivial⟩ ⟨impP_refl _, rfl, impP_refl _, ⟨.inr rfl, rfl, rfl, fun j h0 h1 => absurd h1 (by show ¬ j < 0; omega)⟩, ⟨rfl, rfl⟩, trivial⟩ ⟨by omega, by omega, .inl rfl⟩ (fun _ => rfl) (fun _ _ => rfl) (fun _ _ => rfl) ?_ ?_ ?_
  · intro i lp h0 h1 hI hlp
    refine explore_ok (((ok _).at 2).round 7) (mkM_ok Fb1_ok Hb2_ok) (u := false) 20 _ rfl ?_
    conv => arg 5; cbv
    refine ⟨⟨hlp, trivial⟩, fun h => ?_, fun h => ⟨⟨⟨by show (0:Int) < 1; omega, ?_⟩, trivial⟩, ?_⟩⟩
    · have h : n ≤ i := of_decide_eq_true h
      exact ⟨rfl, .inr ⟨.inr ⟨0, rfl, rfl⟩, by simpa using h, ⟨h0, h1, hI.2.2, h⟩, fun i => i, rfl, impP_refl _, rfl, impP_refl _, impP_refl _, ⟨rfl, rfl⟩, trivial⟩⟩
    · show (i + 1) * 16 ≤ 140737488355328
      omega
    · have h : ¬ n ≤ i := of_decide_eq_false h
      refine ⟨rfl, .inl ⟨rfl, by simpa using h, ⟨by omega, by omega, .inr (by omega)⟩, ren86 9, rfl, impP_refl _, rfl, impP_refl _, ⟨.inr rfl, rfl, rfl, fun j h0 h1 => ?_⟩, ⟨rfl, rfl⟩, trivial⟩⟩
      have h1 : j < i + 1 := h1
      show (bif decide (j < i) then (sortedN l).getD j.toNat ByteArray.empty else (sortedN l).getD i.toNat ByteArray.empty) = (sortedN l).getD j.toNat ByteArray.empty
      by_cases e : j < i
      · simp [e]
      · have : j = i := by omega
        simp [e, this]
  · intro hI
    refine explore_ok ((ok _).at 2) (mkM_ok Fb1_ok Hb2_ok) (u := false) 20 _ rfl ?_
    conv => arg 5; cbv
    exact ⟨fun i => i, rfl, rfl, ⟨impP_refl _, rfl, trivial⟩, take_imp (by rw [List.length_take]; omega)⟩
  · intro i hI
    refine explore_ok ((ok _).at 2) (mkM_ok Fb1_ok Hb2_ok) (u := false) 20 _ rfl ?_
    conv => arg 5; cbv
    exact ⟨fun i => i, rfl, rfl, ⟨impP_refl _, rfl, trivial⟩, take_imp (by rw [List.length_take]; omega)⟩
end Go.Proofs.Ytdikfhjpnfffnaa
