/- A part of what the walks of this claim stand on. -/
import Derived.Test.YtpbjcabecalpaaaGreatDoorWaj
import Derived.Lib.AtoiTie
import Derived.Lib.SlicesS
set_option maxRecDepth 2000
set_option linter.unusedVariables false
set_option linter.unusedSimpArgs false
namespace Go.Proofs.YtpbjcabecalpaaaGreatDoor
open Go Go.Abs Go.Proofs
noncomputable def Fq9 : Table := addS 69 (.cons .str (.cons .str .nil)) (fun s c => (.bool fun _ => hasB (s ()) ((c ()).data.toList.getD 0 0), [fun _ => ∃ x, c () = (⟨#[x]⟩ : ByteArray)])) Fq8
theorem Fq9_ok : TableOK Tryz.prog G0 Fq9 := addS_ok (⟨Tryz.func69, rfl, rfl, rfl, ⟨rfl, rfl⟩, ok _⟩ : FN 69 Tryz.f69).callable (fun s c h => by
  obtain ⟨x, hx⟩ := h.1
  have := contains_ok (s ()) x
  rw [← hx] at this
  have e : ((c ()).data.toList.getD 0 0) = x := by rw [hx]; rfl
  show PF _ _ (.bool fun _ => hasB (s ()) ((c ()).data.toList.getD 0 0))
  rw [e]
  exact this) Fq8_ok
def conOf (a b c d : ByteArray) : CV := (a, pV b, pV c, [hasB d 99, hasB d 109, hasB d 104], ())
def consOf : List ByteArray → List CV
  | a :: b :: c :: d :: r => conOf a b c d :: consOf r
  | _ => []
structure CoX where
  r : List ByteArray
  cs : List CV
def coA (x : CoX) : Env := [(0, Sh.mkL 1 .str fun _ => x.r), (3, .slice (some 0) 10 (fun _ => (x.cs.length : Int)) fun j => shC.mk fun _ => (x.cs : List shC.val).getD (j ()).toNat shC.dflt)]
def coS : Store := [(0, .own 10 50)]
def rsI (d : ByteArray) : Nat → List Bool
  | 0 => [false, false, false]
  | 1 => [hasB d 99, false, false]
  | 2 => [hasB d 99, hasB d 109, false]
  | _ => [hasB d 99, hasB d 109, hasB d 104]
def coA2 (r : List ByteArray) (cs : List CV) (i : Nat) : Env := [(27, .int .i64 fun _ => (i : Int)), (4, .ptr 1 0), (0, Sh.mkL 1 .str fun _ => r), (3, .slice (some 0) 10 (fun _ => (cs.length : Int)) fun j => shC.mk fun _ => (cs : List shC.val).getD (j ()).toNat shC.dflt)]
def coS2 (a b c d : ByteArray) (i : Nat) : Store := [(0, .own 10 50), (1, .var (shC.mk fun _ => ((a, pV b, pV c, rsI d i, ()) : CV)))]
theorem containers_ok (w : List ByteArray) (hl : w.length ≤ 1000000) (hw : ∀ s ∈ w, s.size < 2147483648) : PF 37 (.cons (Sh.mkL 1 .str fun _ => w) .nil) (Sh.mkL 10 shC fun _ => consOf w) := by
  refine (⟨Tryz.func37, rfl, rfl, rfl, ⟨rfl, rfl⟩, ok _⟩ : FN 37 Tryz.f37).treeB (mkM_ok Fq9_ok emptyS_ok) (callB_ok emptyB_ok) false 60 (.any) rfl ?_
  conv => arg 5; cbv
  refine run_own (A := _) 3 10 50 (shC.mk fun _ => c0) (by rfl) (by rfl) (by rfl) ?_
  refine run_inv (ι := CoX) (fun x => x.r.length) (fun x => x.cs ++ consOf x.r = consOf w ∧ (∀ s ∈ x.r, s.size < 2147483648) ∧ x.r.length + x.cs.length ≤ 1000000) coA (fun _ => coS) 1 ⟨w, []⟩ (fun i => i) (by rfl) (by rfl) ⟨rfl, hw, by simpa using hl⟩ ?_ ⟨impP_refl _, ⟨.inr rfl, rfl, rfl, fun j h0 h1 => absurd h1 (by show ¬ j < 0; omega)⟩, trivial⟩ ⟨⟨rfl, rfl⟩, trivial⟩
  rintro ⟨r, cs⟩ hi ih
  dsimp only at hi
  refine exploreB_ok (by first | exact ok _ | exact (ok _).at _ | exact (ok _).round _) (mkM_ok Fq9_ok emptyS_ok) (callB_ok emptyB_ok) (u := false) 60 (.any) _ rfl ?_
  conv => arg 5; cbv
  refine ⟨fun h => ?_, fun h => ?_⟩
  · have h : 4 ≤ (r.length : Int) := of_decide_eq_true h
    obtain ⟨a, b, c, d, q, rfl⟩ : ∃ a b c d q, r = a :: b :: c :: d :: q := by
      match r, h with
      | a :: b :: c :: d :: q, _ => exact ⟨a, b, c, d, q, rfl⟩
      | [], h => exact absurd h (by decide)
      | [_], h => exact absurd h (by simp)
      | [_, _], h => exact absurd h (by simp)
      | [_, _, _], h => exact absurd h (by simp)
    have hlen : ((a :: b :: c :: d :: q).length : Int) = (q.length : Int) + 4 := by simp only [List.length_cons]; omega
    have hq : q.length + 4 + cs.length ≤ 1000000 := hi.2.2
    have hb : b.size < 2147483648 := hi.2.1 b (by simp)
    have hc : c.size < 2147483648 := hi.2.1 c (by simp)
    refine ⟨⟨⟨by decide, by show (0 : Int) < ((a :: b :: c :: d :: q).length : Int); omega⟩, ⟨by decide, by show (1 : Int) < ((a :: b :: c :: d :: q).length : Int); omega⟩, ⟨by decide, by show (2 : Int) < ((a :: b :: c :: d :: q).length : Int); omega⟩, hb, hc, (by show drawOK _ _ = true; decide +kernel), trivial⟩, ?_⟩
    refine run_inv (ι := Nat) (fun i => 3 - i) (fun i => i ≤ 3) (coA2 (a :: b :: c :: d :: q) cs) (coS2 a b c d) 2 0 (fun i => i) (by rfl) (by rfl) (by decide) ?_ ⟨impP_refl _, impP_refl _, impP_refl _, impP_refl _, trivial⟩ ⟨⟨rfl, rfl⟩, impP_refl _, trivial⟩
    intro i hi3 ih2
    refine exploreB_ok (by first | exact ok _ | exact (ok _).at _ | exact (ok _).round _) (mkM_ok Fq9_ok emptyS_ok) (callB_ok emptyB_ok) (u := false) 60 (.any) _ rfl ?_
    conv => arg 5; cbv
    refine ⟨fun k1 => ?_, fun k1 => ?_⟩
    · have k1 : (i : Int) < 3 := of_decide_eq_true k1
      have h3 : (0 : Int) ≤ 3 ∧ (3 : Int) < ((a :: b :: c :: d :: q).length : Int) := ⟨by decide, by omega⟩
      obtain rfl | rfl | rfl : i = 0 ∨ i = 1 ∨ i = 2 := by omega
      · refine ⟨⟨h3, by decide, ⟨99, by decide⟩, by decide, by decide, (by show drawOK _ _ = true; decide +kernel), trivial⟩, ?_⟩
        exact ih2 1 (fun i => i) (by decide) (by decide) (by rfl) ⟨⟨rfl, by decide⟩, impP_refl _, impP_refl _, impP_refl _, trivial⟩ ⟨⟨rfl, rfl⟩, impP_refl _, trivial⟩
      · refine ⟨⟨h3, by decide, ⟨109, by decide⟩, by decide, by decide, (by show drawOK _ _ = true; decide +kernel), trivial⟩, ?_⟩
        exact ih2 2 (fun i => i) (by decide) (by decide) (by rfl) ⟨⟨rfl, by decide⟩, impP_refl _, impP_refl _, impP_refl _, trivial⟩ ⟨⟨rfl, rfl⟩, impP_refl _, trivial⟩
      · refine ⟨⟨h3, by decide, ⟨104, by decide⟩, by decide, by decide, (by show drawOK _ _ = true; decide +kernel), trivial⟩, ?_⟩
        exact ih2 3 (fun i => i) (by decide) (by decide) (by rfl) ⟨⟨rfl, by decide⟩, impP_refl _, impP_refl _, impP_refl _, trivial⟩ ⟨⟨rfl, rfl⟩, impP_refl _, trivial⟩
    · have k1 : ¬ (i : Int) < 3 := of_decide_eq_false k1
      obtain rfl : i = 3 := by omega
      refine ⟨⟨by show (0 : Int) < 1 ∧ ((cs.length : Int) + 1) * 72 ≤ 140737488355328; omega, ⟨by decide, by show (4 : Int) ≤ ((a :: b :: c :: d :: q).length : Int); omega⟩, trivial⟩, ?_⟩
      refine ih ⟨q, cs ++ [conOf a b c d]⟩ (fun i => bif beqN i 0 then 2 else i) ⟨?_, fun s hs => hi.2.1 s (by simp [hs]), ?_⟩ (by show q.length < q.length + 4; omega) (by rfl) ⟨⟨.inl rfl, rfl, ?_, fun j h0 h1 => ?_⟩, push_imp shC (some 2) 10 cs (conOf a b c d), trivial⟩ ⟨⟨rfl, rfl⟩, trivial⟩
      · show (cs ++ [conOf a b c d]) ++ consOf q = consOf w
        rw [← hi.1, List.append_assoc]; rfl
      · show q.length + (cs ++ [conOf a b c d]).length ≤ 1000000
        rw [List.length_append, List.length_singleton]; omega
      · show ((a :: b :: c :: d :: q).length : Int) - 4 = (q.length : Int)
        omega
      · show (a :: b :: c :: d :: q).getD (4 + j).toNat _ = q.getD j.toNat _
        rw [show (4 + j).toNat = j.toNat + 4 by omega]; rfl
  · have h : ¬ 4 ≤ (r.length : Int) := of_decide_eq_false h
    have hr : consOf r = [] := by
      match r, h with
      | a :: b :: c :: d :: q, h => exact absurd (by simp only [List.length_cons]; omega) h
      | [], _ => rfl
      | [_], _ => rfl
      | [_, _], _ => rfl
      | [_, _, _], _ => rfl
    have e : cs = consOf w := by rw [← hi.1, hr, List.append_nil]
    rw [← e]
    exact ⟨rfl, .inl rfl, rfl, rfl, fun j _ _ => impP_refl _⟩
end Go.Proofs.YtpbjcabecalpaaaGreatDoor

namespace Go.Proofs.YtpbjcabecalpaaaGreatDoor
open Go Go.Abs Go.Proofs
def atz (s : ByteArray) : Int := match Lib.atoiAll s.data.toList with
  | .ok v => v
  | Lib.NumEnd.syntax => 0
  | .range => Lib.atoiSat s.data.toList
def wordsL : List ByteArray := [⟨#[97, 100, 100]⟩, ⟨#[114, 101, 109, 111, 118, 101]⟩, ⟨#[114, 101, 115, 105, 122, 101]⟩, ⟨#[116, 105, 99, 107]⟩, ⟨#[101, 120, 105, 116]⟩, ⟨#[117, 115, 101]⟩, ⟨#[102, 97, 105, 108]⟩, ⟨#[99, 117, 116]⟩, ⟨#[116, 101, 97, 114]⟩, ⟨#[112, 111, 119, 101, 114]⟩]
def vtxt (v : VV) : ByteArray := if vRight v.1 v.2.1 v.2.2.1 = true then toB (vText v.1.toNat v.2.1.toNat v.2.2.1.toNat) else ⟨#[]⟩
def conW (c : CV) : List ByteArray := [c.1, vtxt c.2.1, vtxt c.2.2.1, rsB c.2.2.2.1]
def chW (c : HV) : List ByteArray := [c.1, vtxt c.2.1, vtxt c.2.2.1]
def tailE (e : EV) : List ByteArray :=
  if e.1 = 0 then e.2.1.1 :: itz e.2.1.2.1 :: itz e.2.1.2.2.1 :: e.2.1.2.2.2.1.flatMap conW
  else if e.1 = 1 then [e.2.2.1]
  else if e.1 = 2 then e.2.2.1 :: e.2.2.2.2.1.flatMap chW
  else if e.1 = 4 ∨ e.1 = 5 then [e.2.2.1, e.2.2.2.1, itz e.2.2.2.2.2.1]
  else if e.1 = 3 ∨ e.1 = 6 ∨ e.1 = 7 ∨ e.1 = 8 then [itz e.2.2.2.2.2.1] else []
def partsE (e : EV) : List ByteArray := wordsL.getD e.1.toNat ByteArray.empty :: tailE e
def textE (e : EV) : ByteArray := if rightB e = true then joinB (partsE e) ⟨#[32]⟩ else ⟨#[]⟩
def wd (w : List ByteArray) (i : Nat) : ByteArray := w.getD i ByteArray.empty
def rawK (w : List ByteArray) (k : Int) : EV :=
  if k = 0 ∧ 4 < w.length then (0, (wd w 1, atz (wd w 2), atz (wd w 3), consOf (w.drop 4), ()), ByteArray.empty, ByteArray.empty, [], 0, ())
  else if k = 1 ∧ 1 < w.length then (1, p0, wd w 1, ByteArray.empty, [], 0, ())
  else if k = 2 ∧ 1 < w.length then (2, p0, wd w 1, ByteArray.empty, chsOf (w.drop 2), 0, ())
  else if (k = 4 ∨ k = 5) ∧ 3 < w.length then (k, p0, wd w 1, wd w 2, [], atz (wd w 3), ())
  else if 1 < w.length then (k, p0, ByteArray.empty, ByteArray.empty, [], atz (wd w 1), ())
  else (k, p0, ByteArray.empty, ByteArray.empty, [], 0, ())
def rawE (w : List ByteArray) : EV := rawK w (Lib.idxOfS wordsL (wd w 0))
def e0 : EV := (0, p0, ByteArray.empty, ByteArray.empty, [], 0, ())
def parseE (s : ByteArray) : EV × Bool := if rightB (rawE (spB 32 s)) = true ∧ textE (rawE (spB 32 s)) = s then (rawE (spB 32 s), true) else (e0, false)
theorem right_iff {e : EV} : rightB e = true ↔ fitsB e = true ∧ e = bareE e := by
  unfold rightB
  rw [Bool.and_eq_true]
  exact ⟨fun h => ⟨h.1, evB_iff.1 h.2⟩, fun h => ⟨h.1, evB_iff.2 h.2⟩⟩
theorem right_kinds {e : EV} (h : rightB e = true) :
    (∃ p, podB p = true ∧ e = (0, p, ByteArray.empty, ByteArray.empty, [], 0, ())) ∨
    (∃ s, nameB s = true ∧ e = (1, p0, s, ByteArray.empty, [], 0, ())) ∨
    (∃ s hs, nameB s = true ∧ 0 < List.length (α := HV) hs ∧ List.length (α := HV) hs ≤ 6 ∧ (∀ c ∈ hs, chB c = true) ∧ e = (2, p0, s, ByteArray.empty, hs, 0, ())) ∨
    (∃ k s c n, (k = 4 ∨ k = 5) ∧ nameB s = true ∧ nameB c = true ∧ numB n = true ∧ e = (k, p0, s, c, [], n, ())) ∨
    (∃ k n, (k = 3 ∨ k = 6 ∨ k = 7 ∨ k = 8) ∧ numB n = true ∧ e = (k, p0, ByteArray.empty, ByteArray.empty, [], n, ())) ∨
    e = (9, p0, ByteArray.empty, ByteArray.empty, [], 0, ()) := by
  obtain ⟨hf, hb⟩ := right_iff.1 h
  obtain ⟨k, p, s, c, hs, n, ⟨⟩⟩ := e
  have hb : (k, p, s, c, hs, n, ()) = ((k, if k = 0 then p else p0, if k = 1 ∨ k = 2 ∨ k = 4 ∨ k = 5 then s else ByteArray.empty, if k = 4 ∨ k = 5 then c else ByteArray.empty, if k = 2 then hs else [], if 3 ≤ k ∧ k ≤ 8 then n else 0, ()) : EV) := hb
  unfold fitsB at hf
  dsimp only at hf
  by_cases k0 : k = 0
  · subst k0
    refine .inl ⟨p, by simpa using hf, hb.trans rfl⟩
  by_cases k1 : k = 1
  · subst k1
    exact .inr (.inl ⟨s, by simpa using hf, hb.trans rfl⟩)
  by_cases k2 : k = 2
  · subst k2
    rw [if_neg (by decide), if_neg (by decide), if_pos rfl] at hf
    simp only [Bool.and_eq_true, decide_eq_true_eq] at hf
    obtain ⟨⟨⟨h1, h2⟩, h3⟩, h4⟩ := hf
    exact .inr (.inr (.inl ⟨s, hs, h1, by omega, by omega, badH_iff.1 h4, hb.trans rfl⟩))
  by_cases k3 : k = 3
  · subst k3
    rw [if_neg (by decide), if_neg (by decide), if_neg (by decide), if_pos rfl] at hf
    simp only [Bool.and_eq_true, decide_eq_true_eq] at hf
    exact .inr (.inr (.inr (.inr (.inl ⟨3, n, by decide, by unfold numB; simp only [Bool.and_eq_true, decide_eq_true_eq]; omega, hb.trans rfl⟩))))
  by_cases k4 : k = 4 ∨ k = 5
  · rw [if_neg k0, if_neg k1, if_neg k2, if_neg k3, if_pos k4] at hf
    simp only [Bool.and_eq_true] at hf
    refine .inr (.inr (.inr (.inl ⟨k, s, c, n, k4, hf.1.1, hf.1.2, hf.2, hb.trans ?_⟩)))
    rcases k4 with rfl | rfl <;> rfl
  by_cases k6 : k = 6 ∨ k = 7 ∨ k = 8
  · rw [if_neg k0, if_neg k1, if_neg k2, if_neg k3, if_neg k4, if_pos k6] at hf
    refine .inr (.inr (.inr (.inr (.inl ⟨k, n, by omega, hf, hb.trans ?_⟩))))
    rcases k6 with rfl | rfl | rfl <;> rfl
  rw [if_neg k0, if_neg k1, if_neg k2, if_neg k3, if_neg k4, if_neg k6] at hf
  obtain rfl : k = 9 := by simpa using hf
  exact .inr (.inr (.inr (.inr (.inr (hb.trans rfl)))))
def gd (c : UInt8) : Bool := decide (c.toNat ≠ 32) && decide (c.toNat ≠ 10)
def gdB (s : ByteArray) : Prop := ∀ c ∈ s.data.toList, gd c = true
theorem gd_sp {s : ByteArray} (h : gdB s) : ¬ (32 : UInt8) ∈ s.data.toList := fun k => by have := h _ k; revert this; decide
theorem gd_nl {s : ByteArray} (h : gdB s) : ¬ (10 : UInt8) ∈ s.data.toList := fun k => by have := h _ k; revert this; decide
theorem gd_dig {c : UInt8} (h : isD c = true) : gd c = true := by
  unfold isD at h
  unfold gd
  simp only [Bool.and_eq_true, decide_eq_true_eq] at h ⊢
  omega
theorem gd_name {s : ByteArray} (h : nameB s = true) : gdB s := by
  obtain ⟨_, _, h3⟩ := nameB_iff.1 h
  intro c hc
  obtain ⟨j, hj, rfl⟩ := List.getElem_of_mem hc
  have hs : s.data.toList.length = s.size := size_toB s
  have := h3 j (by omega)
  have e : byteAt s (j : Int) = (s.data.toList[j].toNat : Int) := by
    unfold byteAt
    rw [Int.toNat_natCast, List.getD_eq_getElem?_getD, List.getElem?_eq_getElem hj]; rfl
  rw [e] at this
  unfold rd1 at this
  unfold gd
  simp only [Bool.and_eq_true, decide_eq_true_eq]
  omega
theorem gd_decD (n : Nat) : ∀ c ∈ Lib.decDigits n, gd c = true := fun c hc => gd_dig (List.all_eq_true.1 (decDigits_dig n).1 c hc)
theorem gd_itz (n : Int) : gdB (itz n) := by
  intro c hc
  have hc : c ∈ Lib.itoa n := hc
  unfold Lib.itoa at hc
  split at hc
  · rcases List.mem_cons.1 hc with rfl | hc
    · decide
    · exact gd_decD _ c hc
  · exact gd_decD _ c hc
theorem gd_suf (k : Nat) : (∀ c ∈ sufA k, gd c = true) ∧ ∀ c ∈ sufB k, gd c = true := by
  have h : ∀ j, j < 11 → (∀ c ∈ sufA j, gd c = true) ∧ ∀ c ∈ sufB j, gd c = true := by decide +kernel
  by_cases hk : k < 11
  · exact h k hk
  · have e1 : sufA k = [] := by unfold sufA; rw [List.getD_eq_getElem?_getD, List.getElem?_eq_none (by simp; omega)]; rfl
    have e2 : sufB k = [] := by unfold sufB; rw [List.getD_eq_getElem?_getD, List.getElem?_eq_none (by simp; omega)]; rfl
    rw [e1, e2]
    exact ⟨fun c h => by simp at h, fun c h => by simp at h⟩
theorem gd_atext (v : Nat) : ∀ c ∈ atext v, gd c = true := by
  intro c hc
  unfold atext at hc
  split at hc
  · rw [List.mem_singleton] at hc; subst hc; decide
  · rcases List.mem_append.1 hc with hc | hc
    · exact gd_decD _ c hc
    · exact (gd_suf _).1 c hc
theorem gd_btext (v : Nat) : ∀ c ∈ btext v, gd c = true := by
  intro c hc
  unfold btext at hc
  split at hc
  · exact gd_atext _ c hc
  · rcases List.mem_append.1 hc with hc | hc
    · exact gd_decD _ c hc
    · exact (gd_suf _).2 c hc
theorem join_mem {s : UInt8} : ∀ (l : List (List UInt8)) (c : UInt8), c ∈ Lib.join l [s] → c = s ∨ ∃ x ∈ l, c ∈ x
  | [], c, h => by rw [Lib.join_nil] at h; cases h
  | [x], c, h => .inr ⟨x, by simp, by simpa [Lib.join] using h⟩
  | x :: y :: r, c, h => by
    have e : Lib.join (x :: y :: r) [s] = x ++ ([s] ++ Lib.join (y :: r) [s]) := by simp [Lib.join]
    rw [e] at h
    rcases List.mem_append.1 h with h | h
    · exact .inr ⟨x, by simp, h⟩
    · rcases List.mem_append.1 h with h | h
      · exact .inl (by simpa using h)
      · rcases join_mem (y :: r) c h with h | ⟨z, hz, hc⟩
        · exact .inl h
        · exact .inr ⟨z, by simp [List.mem_cons.1 hz], hc⟩
theorem gd_nm : (∀ c ∈ sCpu, gd c = true) ∧ (∀ c ∈ sMem, gd c = true) ∧ ∀ c ∈ sHug, gd c = true := by decide
theorem gd_key {n t : List UInt8} (hn : ∀ c ∈ n, gd c = true) (ht : ∀ c ∈ t, gd c = true) : ∀ c ∈ n ++ 61 :: t, gd c = true := by
  intro c hc
  rcases List.mem_append.1 hc with hc | hc
  · exact hn c hc
  · rcases List.mem_cons.1 hc with rfl | hc
    · decide
    · exact ht c hc
theorem gd_vParts (c m h : Nat) : ∀ x ∈ vParts c m h, ∀ b ∈ x, gd b = true := by
  intro x hx
  unfold vParts at hx
  rcases List.mem_append.1 hx with hx | hx
  · split at hx
    · rw [List.mem_singleton] at hx; subst hx; exact gd_key gd_nm.1 (gd_atext _)
    · cases hx
  · rcases List.mem_append.1 hx with hx | hx
    · split at hx
      · rw [List.mem_singleton] at hx; subst hx; exact gd_key gd_nm.2.1 (gd_btext _)
      · cases hx
    · split at hx
      · rw [List.mem_singleton] at hx; subst hx; exact gd_key gd_nm.2.2 (gd_btext _)
      · cases hx
theorem gd_vtxt (v : VV) : gdB (vtxt v) := by
  intro b hb
  unfold vtxt at hb
  split at hb
  · have hb : b ∈ vText _ _ _ := hb
    unfold vText at hb
    split at hb
    · rw [List.mem_singleton] at hb; subst hb; decide
    · rcases join_mem _ b hb with rfl | ⟨x, hx, hc⟩
      · decide
      · exact gd_vParts _ _ _ x hx b hc
  · simp at hb
theorem gd_rsB (l : List Bool) : gdB (rsB l) := by
  unfold rsB gdB
  generalize l.getD 0 false = a
  generalize l.getD 1 false = b
  generalize l.getD 2 false = c
  revert a b c; decide
theorem gd_words (k : Nat) : gdB (wordsL.getD k ByteArray.empty) := by
  by_cases hk : k < 10
  · have : ∀ j, j < 10 → gdB (wordsL.getD j ByteArray.empty) := by unfold gdB; decide
    exact this k hk
  · have e : wordsL.getD k ByteArray.empty = ByteArray.empty := by rw [List.getD_eq_getElem?_getD, List.getElem?_eq_none (by show 10 ≤ k; omega)]; rfl
    rw [e]
    intro c hc
    simp at hc
theorem contB_parts {c : CV} (h : contB c = true) : nameB c.1 = true ∧ vvB c.2.1 = true ∧ vvB c.2.2.1 = true := by
  unfold contB at h
  simp only [Bool.and_eq_true] at h
  exact ⟨h.1.1.1.1.1, h.1.1.1.1.2, h.1.1.1.2⟩
theorem chB_parts {c : HV} (h : chB c = true) : nameB c.1 = true ∧ vvB c.2.1 = true ∧ vvB c.2.2.1 = true := by
  unfold chB at h
  simp only [Bool.and_eq_true] at h
  exact ⟨h.1.1, h.1.2, h.2⟩
theorem pod_parts {p : PoV} (h : podB p = true) : nameB p.1 = true ∧ (-1000 ≤ p.2.1 ∧ p.2.1 ≤ 1000) ∧ (0 ≤ p.2.2.1 ∧ p.2.2.1 ≤ 2) ∧ (1 ≤ p.2.2.2.1.length ∧ p.2.2.2.1.length ≤ 6) ∧ ∀ c ∈ p.2.2.2.1, contB c = true := by
  obtain ⟨nm, pr, po, l, ⟨⟩⟩ := p
  obtain ⟨h1, h2, h3, h4, h5, _⟩ := podB_iff.1 h
  refine ⟨h1, h2, h3, h4, fun c hc => ?_⟩
  obtain ⟨j, hj, rfl⟩ := List.getElem_of_mem hc
  have := (h5 j hj).2
  rw [List.getD_eq_getElem?_getD, List.getElem?_eq_getElem hj] at this
  exact this
theorem parts_gd {e : EV} (h : rightB e = true) : ∀ x ∈ partsE e, gdB x := by
  intro x hx
  rcases List.mem_cons.1 hx with rfl | hx
  · exact gd_words _
  rcases right_kinds h with ⟨p, hp, rfl⟩ | ⟨s, hs, rfl⟩ | ⟨s, hs, h1, _, _, h2, rfl⟩ | ⟨k, s, c, n, hk, h1, h2, h3, rfl⟩ | ⟨k, n, hk, h3, rfl⟩ | rfl
  · obtain ⟨p1, _, _, _, p5⟩ := pod_parts hp
    have hx : x ∈ p.1 :: itz p.2.1 :: itz p.2.2.1 :: p.2.2.2.1.flatMap conW := hx
    simp only [List.mem_cons, List.mem_flatMap] at hx
    rcases hx with rfl | rfl | rfl | ⟨c, hc, hx⟩
    · exact gd_name p1
    · exact gd_itz _
    · exact gd_itz _
    · have := contB_parts (p5 c hc)
      simp only [conW, List.mem_cons, List.not_mem_nil, or_false] at hx
      rcases hx with rfl | rfl | rfl | rfl
      · exact gd_name this.1
      · exact gd_vtxt _
      · exact gd_vtxt _
      · exact gd_rsB _
  · have hx : x ∈ [s] := hx
    rw [List.mem_singleton] at hx; subst hx; exact gd_name hs
  · have hx : x ∈ s :: hs.flatMap chW := hx
    simp only [List.mem_cons, List.mem_flatMap] at hx
    rcases hx with rfl | ⟨c, hc, hx⟩
    · exact gd_name h1
    · have := chB_parts (h2 c hc)
      simp only [chW, List.mem_cons, List.not_mem_nil, or_false] at hx
      rcases hx with rfl | rfl | rfl
      · exact gd_name this.1
      · exact gd_vtxt _
      · exact gd_vtxt _
  · have hx : x ∈ [s, c, itz n] := by rcases hk with rfl | rfl <;> exact hx
    simp only [List.mem_cons, List.not_mem_nil, or_false] at hx
    rcases hx with rfl | rfl | rfl
    · exact gd_name h1
    · exact gd_name h2
    · exact gd_itz _
  · have hx : x ∈ [itz n] := by rcases hk with rfl | rfl | rfl | rfl <;> exact hx
    rw [List.mem_singleton] at hx; subst hx; exact gd_itz _
  · cases hx
theorem decFrom_val : ∀ (l : List UInt8) (a : Nat), l.all isD = true → Lib.decFrom a l = some (l.foldl (fun n c => n * 10 + (c.toNat - 48)) a)
  | [], a, _ => rfl
  | c :: l, a, h => by
    rw [List.all_cons, Bool.and_eq_true] at h
    have hd : Lib.digitVal c = some (c.toNat - 48) := by
      have := h.1
      unfold isD at this
      simp only [Bool.and_eq_true, decide_eq_true_eq] at this
      unfold Lib.digitVal
      rw [if_pos this]
    unfold Lib.decFrom
    rw [hd]
    exact decFrom_val l _ h.2
theorem decNat_dec (n : Nat) : Lib.decNat (Lib.decDigits n) = some n := by
  obtain ⟨h1, h2, h3, _⟩ := decDigits_dig n
  unfold Lib.decNat
  rw [if_neg (by simpa using h3), decFrom_val _ _ h1]
  exact congrArg some h2
theorem atoi_itoa (n : Int) : Lib.atoi (Lib.itoa n) = some n := by
  unfold Lib.itoa
  split
  · rename_i h
    have e : Lib.atoi (45 :: Lib.decDigits n.natAbs) = (Lib.decNat (Lib.decDigits n.natAbs)).map fun (m : Nat) => -(m : Int) := rfl
    rw [e, decNat_dec]
    show some (-((n.natAbs : Nat) : Int)) = some n
    congr 1; omega
  · rename_i h
    obtain ⟨h1, h2, h3, _⟩ := decDigits_dig n.toNat
    have hv := decNat_dec n.toNat
    cases hl : Lib.decDigits n.toNat with
    | nil => exact absurd hl h3
    | cons c r =>
      rw [hl] at h1 hv
      rw [List.all_cons, Bool.and_eq_true] at h1
      have hd := h1.1
      unfold isD at hd
      simp only [Bool.and_eq_true, decide_eq_true_eq] at hd
      have n1 : ¬ (c == 45) = true := fun e => by have e : c = 45 := by simpa using e
                                                  subst e; exact absurd hd.1 (by decide)
      have n2 : ¬ (c == 43) = true := fun e => by have e : c = 43 := by simpa using e
                                                  subst e; exact absurd hd.1 (by decide)
      have e : Lib.atoi (c :: r) = if (c == 45) = true then (Lib.decNat r).map fun (m : Nat) => -(m : Int) else if (c == 43) = true then (Lib.decNat r).map fun (m : Nat) => (m : Int) else (Lib.decNat (c :: r)).map fun (m : Nat) => (m : Int) := rfl
      rw [e, if_neg n1, if_neg n2, hv]
      show some ((n.toNat : Nat) : Int) = some n
      congr 1; omega
theorem itoa_short {n : Int} (h0 : -1000 ≤ n) (h1 : n ≤ 9007199254740992) : (Lib.itoa n).length ≤ 17 := by
  unfold Lib.itoa
  split
  · have := dec_len (n := n.natAbs) (k := 4) (by omega) (by omega)
    simp only [List.length_cons]; omega
  · have := dec_len (n := n.toNat) (k := 16) (by omega) (by omega)
    omega
theorem atz_itz {n : Int} (h0 : -1000 ≤ n) (h1 : n ≤ 9007199254740992) : atz (itz n) = n := by
  have hs := itoa_short h0 h1
  have e : (itz n).data.toList = Lib.itoa n := rfl
  unfold atz
  rw [e, Lib.atoiAll_short _ (by omega), atoi_itoa]
  rfl
theorem pV_vtxt {v : VV} (h : vvB v = true) : pV (vtxt v) = v := by
  obtain ⟨c, m, g, ⟨⟩⟩ := v
  have h : vRight c m g = true := h
  have hr := vRight_iff.1 h
  have e : (vtxt (c, m, g, ())).data.toList = vText c.toNat m.toNat g.toNat := by
    unfold vtxt
    rw [if_pos h]
    rfl
  unfold pV
  rw [e, vParse_text (by omega) (by omega) (by omega) (by omega)]
  show (((c.toNat : Nat) : Int), ((m.toNat : Nat) : Int), ((g.toNat : Nat) : Int), ()) = (c, m, g, ())
  rw [Int.toNat_of_nonneg hr.1.1, Int.toNat_of_nonneg hr.2.1.1, Int.toNat_of_nonneg hr.2.2.1.1]
theorem has_rs : ∀ a b c : Bool, hasB (rsB [a, b, c]) 99 = a ∧ hasB (rsB [a, b, c]) 109 = b ∧ hasB (rsB [a, b, c]) 104 = c := by decide
theorem con_back {c : CV} (h : contB c = true) (h3 : c.2.2.2.1.length = 3) : conOf c.1 (vtxt c.2.1) (vtxt c.2.2.1) (rsB c.2.2.2.1) = c := by
  obtain ⟨nm, r, l, rs, ⟨⟩⟩ := c
  obtain ⟨_, h1, h2⟩ := contB_parts h
  have h3 : rs.length = 3 := h3
  obtain ⟨a, b, d, rfl⟩ : ∃ a b d, rs = [a, b, d] := by
    match rs, h3 with
    | [a, b, d], _ => exact ⟨a, b, d, rfl⟩
  unfold conOf
  obtain ⟨q1, q2, q3⟩ := has_rs a b d
  show (nm, pV (vtxt r), pV (vtxt l), [hasB (rsB [a, b, d]) 99, hasB (rsB [a, b, d]) 109, hasB (rsB [a, b, d]) 104], ()) = _
  rw [q1, q2, q3, pV_vtxt h1, pV_vtxt h2]
theorem cons_back : ∀ {l : List CV}, (∀ c ∈ l, contB c = true) → (∀ c ∈ l, c.2.2.2.1.length = 3) → consOf (l.flatMap conW) = l
  | [], _, _ => rfl
  | c :: l, h, h3 => by
    show conOf c.1 (vtxt c.2.1) (vtxt c.2.2.1) (rsB c.2.2.2.1) :: consOf (l.flatMap conW) = c :: l
    rw [con_back (h c (by simp)) (h3 c (by simp)), cons_back (fun c hc => h c (by simp [hc])) (fun c hc => h3 c (by simp [hc]))]
theorem chs_back : ∀ {l : List HV}, (∀ c ∈ l, chB c = true) → chsOf (l.flatMap chW) = l
  | [], _ => rfl
  | c :: l, h => by
    obtain ⟨nm, r, q, ⟨⟩⟩ := c
    obtain ⟨_, h1, h2⟩ := chB_parts (h (nm, r, q, ()) (by simp))
    show (nm, pV (vtxt r), pV (vtxt q), ()) :: chsOf (l.flatMap chW) = (nm, r, q, ()) :: l
    rw [pV_vtxt h1, pV_vtxt h2, chs_back (fun c hc => h c (by simp [hc]))]
theorem idx_word : ∀ k : Nat, k < 10 → Lib.idxOfS wordsL (wordsL.getD k ByteArray.empty) = (k : Int) := by decide
theorem numB_iff {n : Int} : numB n = true ↔ -1000 ≤ n ∧ n ≤ 9007199254740992 := by unfold numB; simp
def res3 (e : EV) : Prop := ∀ c ∈ e.2.1.2.2.2.1, c.2.2.2.1.length = 3
theorem raw_back {e : EV} (h : rightB e = true) (h3 : res3 e) : rawE (partsE e) = e := by
  rcases right_kinds h with ⟨p, hp, rfl⟩ | ⟨s, hs, rfl⟩ | ⟨s, hs, h1, l1, l2, h2, rfl⟩ | ⟨k, s, c, n, hk, h1, h2, hn, rfl⟩ | ⟨k, n, hk, hn, rfl⟩ | rfl
  · obtain ⟨nm, pr, po, l, ⟨⟩⟩ := p
    obtain ⟨p1, p2, p3, p4, p5⟩ := pod_parts hp
    have hlen : 4 < (partsE (0, (nm, pr, po, l, ()), ByteArray.empty, ByteArray.empty, [], 0, ())).length := by
      show 4 < (l.flatMap conW).length + 1 + 1 + 1 + 1
      have : 0 < (l.flatMap conW).length := by
        cases l with
        | nil => exact absurd p4.1 (by show ¬ 1 ≤ 0; decide)
        | cons c l => show 0 < (conW c ++ _).length; simp [conW]
      omega
    show rawK _ (Lib.idxOfS wordsL (wordsL.getD 0 ByteArray.empty)) = _
    rw [idx_word 0 (by decide)]
    unfold rawK
    rw [if_pos ⟨rfl, hlen⟩]
    show ((0 : Int), (nm, atz (itz pr), atz (itz po), consOf (l.flatMap conW), ()), ByteArray.empty, ByteArray.empty, [], (0 : Int), ()) = _
    have p2 : -1000 ≤ pr ∧ pr ≤ 1000 := p2
    have p3 : 0 ≤ po ∧ po ≤ 2 := p3
    rw [atz_itz p2.1 (by omega), atz_itz (by omega) (by omega), cons_back p5 h3]
  · show rawK _ (Lib.idxOfS wordsL (wordsL.getD 1 ByteArray.empty)) = _
    rw [idx_word 1 (by decide)]
    rfl
  · show rawK _ (Lib.idxOfS wordsL (wordsL.getD 2 ByteArray.empty)) = _
    rw [idx_word 2 (by decide)]
    unfold rawK
    rw [if_neg (fun h => absurd h.1 (by decide)), if_neg (fun h => absurd h.1 (by decide)), if_pos ⟨rfl, by show 1 < (hs.flatMap chW).length + 1 + 1; omega⟩]
    show ((2 : Int), p0, s, ByteArray.empty, chsOf (hs.flatMap chW), (0 : Int), ()) = _
    rw [chs_back h2]
  · obtain ⟨n1, n2⟩ := numB_iff.1 hn
    rcases hk with rfl | rfl
    · show rawK _ (Lib.idxOfS wordsL (wordsL.getD 4 ByteArray.empty)) = _
      rw [idx_word 4 (by decide)]
      show ((4 : Int), p0, s, c, [], atz (itz n), ()) = _
      rw [atz_itz n1 n2]
    · show rawK _ (Lib.idxOfS wordsL (wordsL.getD 5 ByteArray.empty)) = _
      rw [idx_word 5 (by decide)]
      show ((5 : Int), p0, s, c, [], atz (itz n), ()) = _
      rw [atz_itz n1 n2]
  · obtain ⟨n1, n2⟩ := numB_iff.1 hn
    rcases hk with rfl | rfl | rfl | rfl
    · show rawK _ (Lib.idxOfS wordsL (wordsL.getD 3 ByteArray.empty)) = _
      rw [idx_word 3 (by decide)]
      show ((3 : Int), p0, ByteArray.empty, ByteArray.empty, [], atz (itz n), ()) = _
      rw [atz_itz n1 n2]
    · show rawK _ (Lib.idxOfS wordsL (wordsL.getD 6 ByteArray.empty)) = _
      rw [idx_word 6 (by decide)]
      show ((6 : Int), p0, ByteArray.empty, ByteArray.empty, [], atz (itz n), ()) = _
      rw [atz_itz n1 n2]
    · show rawK _ (Lib.idxOfS wordsL (wordsL.getD 7 ByteArray.empty)) = _
      rw [idx_word 7 (by decide)]
      show ((7 : Int), p0, ByteArray.empty, ByteArray.empty, [], atz (itz n), ()) = _
      rw [atz_itz n1 n2]
    · show rawK _ (Lib.idxOfS wordsL (wordsL.getD 8 ByteArray.empty)) = _
      rw [idx_word 8 (by decide)]
      show ((8 : Int), p0, ByteArray.empty, ByteArray.empty, [], atz (itz n), ()) = _
      rw [atz_itz n1 n2]
  · show rawK _ (Lib.idxOfS wordsL (wordsL.getD 9 ByteArray.empty)) = _
    rw [idx_word 9 (by decide)]
    rfl
theorem parse_text {e : EV} (h : rightB e = true) (h3 : res3 e) : parseE (textE e) = (e, true) := by
  have ht : textE e = joinB (partsE e) ⟨#[32]⟩ := if_pos h
  have hs : spB 32 (textE e) = partsE e := by
    rw [ht]
    exact spB_join fun x hx => gd_sp (parts_gd h x hx)
  unfold parseE
  rw [hs, raw_back h h3, if_pos ⟨h, rfl⟩]
theorem text_nl {e : EV} : ¬ (10 : UInt8) ∈ (textE e).data.toList := by
  intro hc
  unfold textE at hc
  split at hc
  · rename_i h
    have hc : (10 : UInt8) ∈ Lib.join ((partsE e).map (·.data.toList)) [32] := hc
    rcases join_mem _ _ hc with h' | ⟨x, hx, hc⟩
    · exact absurd h' (by decide)
    · obtain ⟨y, hy, rfl⟩ := List.mem_map.1 hx
      exact gd_nl (parts_gd h y hy) hc
  · simp at hc
end Go.Proofs.YtpbjcabecalpaaaGreatDoor
namespace Go.Proofs.YtpbjcabecalpaaaGreatDoor
open Go Go.Abs Go.Proofs
theorem err_of {M : Mem} {w : World} {g} {nm : String} {k : Nat} (hn : nm = "strconv.ErrSyntax" ∨ nm = "strconv.ErrRange") (hk : Tryz.prog.globalNamed nm = some k) (hG : GOK G0 M) (hI : Inv M noNames g w) : ∃ tp p, w.cell? ⟨k, 0, none⟩ = some (.iface tp p) := by
  obtain ⟨tp, p, t, fr, e⟩ := hG.2.2.2 nm hn k hk
  refine ⟨tp, p, ?_⟩
  have := (hI.stat _ _ e).1
  simp [World.cell?, this]
theorem atoi_ok (s : ByteArray) (hs : s.size < 2147483648) : PF 67 (.cons (.str fun _ => s) .nil) (.tuple (.cons (.int .i64 fun _ => atz s) (.cons .undef .nil))) := by
  refine PFun.of_below (⟨Tryz.func67, rfl, rfl, rfl, ⟨rfl, rfl⟩, ok _⟩ : FN 67 Tryz.f67).callable fun M w vs hG hI hr => ?_
  rcases hr with ⟨h, _⟩ | ⟨_, v, ws, rfl, hv, hn⟩
  · cases h
  obtain ⟨_, rfl⟩ := hn
  obtain ⟨_, hv⟩ := hv
  obtain rfl : v = .string s := by simpa using hv
  obtain ⟨t1, p1, e1⟩ := err_of (.inl rfl) (show Tryz.prog.globalNamed "strconv.ErrSyntax" = some 1 by kernel_rfl) hG hI
  obtain ⟨t2, p2, e2⟩ := err_of (.inr rfl) (show Tryz.prog.globalNamed "strconv.ErrRange" = some 2 by kernel_rfl) hG hI
  have leaf : ∀ (n : Int) (x : Value), n = atz s → rel M (.tuple (.cons (.int .i64 fun _ => atz s) (.cons .undef .nil))) noNames .val [.tuple #[.int .i64 n, x]] := by
    rintro n x rfl
    exact ⟨rfl, [.int .i64 (atz s), x], rfl, .inr ⟨rfl, _, _, rfl, ⟨by simp, rfl⟩, .inr ⟨rfl, _, _, rfl, ⟨rfl, _, rfl⟩, by simp, rfl⟩⟩⟩
  have h3 : ∀ x : Lib.NumEnd Int, (∃ n, x = .ok n) ∨ x = Lib.NumEnd.syntax ∨ x = .range := fun x => by cases x <;> simp
  rcases h3 (Lib.atoiAll s.data.toList) with ⟨n, h⟩ | h | h
  · refine (Tryz.strconv_Atoi_ok s (by omega) n h w).mono ?_
    rintro e w' ⟨rfl, hw⟩
    refine ⟨_, rfl, ?_, leaf _ _ (by unfold atz; rw [h])⟩
    rcases hw with rfl | ⟨t, rfl⟩
    · exact RowKit.Below.refl _ _
    · exact Lib.bytesWorld_below w _ t
  · refine (Tryz.strconv_Atoi_syntax s (by omega) h _ w e1 (.inr ⟨_, _, rfl⟩)).mono ?_
    rintro e w' ⟨N, rfl, _, _, hw⟩
    exact ⟨_, rfl, hw, leaf _ _ (by unfold atz; rw [h])⟩
  · refine (Tryz.strconv_Atoi_range s (by omega) h _ w e2 (.inr ⟨_, _, rfl⟩)).mono ?_
    rintro e w' ⟨N, rfl, _, _, hw⟩
    exact ⟨_, rfl, hw, leaf _ _ (by unfold atz; rw [h])⟩
noncomputable def Fr0 : Table := addS 67 (.cons .str .nil) (fun s => (.tuple (.cons (.int .i64 fun _ => atz (s ())) (.cons .undef .nil)), [fun _ => (s ()).size < 2147483648])) Fq9
theorem Fr0_ok : TableOK Tryz.prog G0 Fr0 := addS_ok (⟨Tryz.func67, rfl, rfl, rfl, ⟨rfl, rfl⟩, ok _⟩ : FN 67 Tryz.f67).callable (fun s h => atoi_ok (s ()) h.1) Fq9_ok
theorem read_ok (s : ByteArray) (hs : s.size < 2147483648) : PF 36 (.cons (.str fun _ => s) .nil) (.int .i64 fun _ => atz s) := by
  refine (⟨Tryz.func36, rfl, rfl, rfl, ⟨rfl, rfl⟩, ok _⟩ : FN 36 Tryz.f36).treeB (mkM_ok Fr0_ok emptyS_ok) (callB_ok emptyB_ok) false 60 (.any) rfl ?_
  conv => arg 5; cbv
  exact ⟨⟨hs, trivial⟩, rfl, impP_refl _⟩
theorem words_ok : PF 35 .nil (Sh.mkL 1 .str fun _ => wordsL) := by
  refine (⟨Tryz.func35, rfl, rfl, rfl, ⟨rfl, rfl⟩, ok _⟩ : FN 35 Tryz.f35).treeB (mkM_ok Fr0_ok emptyS_ok) (callB_ok emptyB_ok) false 60 (.any) rfl ?_
  conv => arg 5; cbv
  refine ⟨rfl, .inl rfl, rfl, rfl, fun j h0 h1 => ?_⟩
  have h1 : j < 10 := h1
  obtain rfl | rfl | rfl | rfl | rfl | rfl | rfl | rfl | rfl | rfl : j = 0 ∨ j = 1 ∨ j = 2 ∨ j = 3 ∨ j = 4 ∨ j = 5 ∨ j = 6 ∨ j = 7 ∨ j = 8 ∨ j = 9 := by omega
  all_goals exact impP_refl _
noncomputable def Fr1 : Table := addS 36 (.cons .str .nil) (fun s => (.int .i64 fun _ => atz (s ()), [fun _ => (s ()).size < 2147483648])) Fr0
theorem Fr1_ok : TableOK Tryz.prog G0 Fr1 := addS_ok (⟨Tryz.func36, rfl, rfl, rfl, ⟨rfl, rfl⟩, ok _⟩ : FN 36 Tryz.f36).callable (fun s h => read_ok (s ()) h.1) Fr0_ok
end Go.Proofs.YtpbjcabecalpaaaGreatDoor
namespace Go.Abs
theorem sel_form : ∀ (ys : List ByteArray) (i : Nat) (j : Unit → Int), ys ≠ [] → ∃ s : Unit → ByteArray, sel i (ys.map fun y => PV.str fun _ => y) j = .str s ∧ ∀ k : Nat, k < ys.length → j () = ((i + k : Nat) : Int) → s () = ys.getD k ByteArray.empty
  | [], i, j, h => absurd rfl h
  | [y], i, j, _ => ⟨fun _ => y, rfl, fun k hk _ => by
    have : k = 0 := by have : k < 1 := hk; omega
    subst this; rfl⟩
  | y :: z :: r, i, j, _ => by
    obtain ⟨s, h1, h2⟩ := sel_form (z :: r) (i + 1) j (by simp)
    refine ⟨fun _ => bif decide (j () = (i : Int)) then y else s (), ?_, fun k hk hj => ?_⟩
    · show PV.mrx (fun _ => decide (j () = (i : Int))) (.str fun _ => y) (sel (i + 1) ((z :: r).map fun y => PV.str fun _ => y) j) = _
      rw [h1]; rfl
    · cases k with
      | zero => show (bif decide (j () = (i : Int)) then y else s ()) = y; rw [decide_eq_true (by omega)]; rfl
      | succ k =>
        show (bif decide (j () = (i : Int)) then y else s ()) = (z :: r).getD k ByteArray.empty
        rw [decide_eq_false (by omega), cond_false]
        exact h2 k (by simpa using hk) (by omega)
theorem getD_app {xs ys : List ByteArray} (i : Nat) (hi : i < xs.length + ys.length) : (bif decide ((i : Int) < (xs.length : Int)) then xs.getD i ByteArray.empty else ys.getD (i - xs.length) ByteArray.empty) = (xs ++ ys).getD i ByteArray.empty := by
  rw [List.getD_eq_getElem?_getD, List.getD_eq_getElem?_getD, List.getD_eq_getElem?_getD]
  by_cases h : i < xs.length
  · rw [List.getElem?_append_left h, decide_eq_true (by omega)]; rfl
  · rw [List.getElem?_append_right (by omega), decide_eq_false (by omega)]; rfl
theorem app_strs (tok : Option Nat) (xs ys : List ByteArray) (hy : ys ≠ []) : impP (.slice tok 1 (fun _ => (xs.length : Int) + (ys.length : Int)) fun j => PV.mrg (fun _ => decide (j () < (xs.length : Int))) (.str fun _ => xs.getD (j ()).toNat ByteArray.empty) (sel 0 (ys.map fun y => PV.str fun _ => y) fun _ => j () - (xs.length : Int)))
    (.slice tok 1 (fun _ => ((xs ++ ys).length : Int)) fun j => .str fun _ => (xs ++ ys).getD (j ()).toNat ByteArray.empty) := by
  refine ⟨.inr rfl, rfl, by show (xs.length : Int) + (ys.length : Int) = ((xs ++ ys).length : Int); rw [List.length_append]; omega, fun j h0 h1 => ?_⟩
  obtain ⟨i, rfl⟩ : ∃ i : Nat, j = i := ⟨j.toNat, by omega⟩
  have h1 : (i : Int) < (xs.length : Int) + (ys.length : Int) := h1
  obtain ⟨s, e, hs⟩ := sel_form ys 0 (fun _ => (i : Int) - (xs.length : Int)) hy
  show impP (PV.mrg (fun _ => decide ((i : Int) < (xs.length : Int))) (.str fun _ => xs.getD ((i : Int)).toNat ByteArray.empty) (sel 0 (ys.map fun y => PV.str fun _ => y) fun _ => (i : Int) - (xs.length : Int))) (.str fun _ => (xs ++ ys).getD ((i : Int)).toNat ByteArray.empty)
  rw [e]
  show (bif decide ((i : Int) < (xs.length : Int)) then xs.getD ((i : Int)).toNat ByteArray.empty else s ()) = (xs ++ ys).getD ((i : Int)).toNat ByteArray.empty
  rw [Int.toNat_natCast, ← getD_app i (by omega)]
  by_cases h : i < xs.length
  · rw [decide_eq_true (by omega)]; rfl
  · rw [decide_eq_false (by omega)]
    exact hs (i - xs.length) (by omega) (by show (i : Int) - (xs.length : Int) = ((0 + (i - xs.length) : Nat) : Int); omega)
theorem app_sels (tok : Option Nat) (xs ys : List ByteArray) (hx : xs ≠ []) (hy : ys ≠ []) : impP (.slice tok 1 (fun _ => (xs.length : Int) + (ys.length : Int)) fun j => PV.mrg (fun _ => decide (j () < (xs.length : Int))) (sel 0 (xs.map fun y => PV.str fun _ => y) j) (sel 0 (ys.map fun y => PV.str fun _ => y) fun _ => j () - (xs.length : Int)))
    (.slice tok 1 (fun _ => ((xs ++ ys).length : Int)) fun j => .str fun _ => (xs ++ ys).getD (j ()).toNat ByteArray.empty) := by
  refine ⟨.inr rfl, rfl, by show (xs.length : Int) + (ys.length : Int) = ((xs ++ ys).length : Int); rw [List.length_append]; omega, fun j h0 h1 => ?_⟩
  obtain ⟨i, rfl⟩ : ∃ i : Nat, j = i := ⟨j.toNat, by omega⟩
  have h1 : (i : Int) < (xs.length : Int) + (ys.length : Int) := h1
  obtain ⟨s, e, hs⟩ := sel_form ys 0 (fun _ => (i : Int) - (xs.length : Int)) hy
  obtain ⟨t, e2, ht⟩ := sel_form xs 0 (fun _ => (i : Int)) hx
  show impP (PV.mrg (fun _ => decide ((i : Int) < (xs.length : Int))) (sel 0 (xs.map fun y => PV.str fun _ => y) fun _ => (i : Int)) (sel 0 (ys.map fun y => PV.str fun _ => y) fun _ => (i : Int) - (xs.length : Int))) (.str fun _ => (xs ++ ys).getD ((i : Int)).toNat ByteArray.empty)
  rw [e, e2]
  show (bif decide ((i : Int) < (xs.length : Int)) then t () else s ()) = (xs ++ ys).getD ((i : Int)).toNat ByteArray.empty
  rw [Int.toNat_natCast, ← getD_app i (by omega)]
  by_cases h : i < xs.length
  · rw [decide_eq_true (by omega)]
    exact ht i h (by show (i : Int) = ((0 + i : Nat) : Int); omega)
  · rw [decide_eq_false (by omega)]
    exact hs (i - xs.length) (by omega) (by show (i : Int) - (xs.length : Int) = ((0 + (i - xs.length) : Nat) : Int); omega)
theorem all_sels (tok : Option Nat) (xs : List ByteArray) (hx : xs ≠ []) : impP (.slice tok 1 (fun _ => (xs.length : Int)) (sel 0 (xs.map fun y => PV.str fun _ => y)))
    (.slice tok 1 (fun _ => (xs.length : Int)) fun j => .str fun _ => xs.getD (j ()).toNat ByteArray.empty) := by
  refine ⟨.inr rfl, rfl, rfl, fun j h0 h1 => ?_⟩
  obtain ⟨i, rfl⟩ : ∃ i : Nat, j = i := ⟨j.toNat, by omega⟩
  have h1 : (i : Int) < (xs.length : Int) := h1
  obtain ⟨t, e2, ht⟩ := sel_form xs 0 (fun _ => (i : Int)) hx
  rw [e2]
  show t () = xs.getD ((i : Int)).toNat ByteArray.empty
  rw [Int.toNat_natCast]
  exact ht i (by omega) (by show (i : Int) = ((0 + i : Nat) : Int); omega)
end Go.Abs
namespace Go.Proofs.YtpbjcabecalpaaaGreatDoor
open Go Go.Abs Go.Proofs
noncomputable def Fr2 : Table := addS 35 .nil (Sh.mkL 1 .str fun _ => wordsL, []) Fr1
theorem Fr2_ok : TableOK Tryz.prog G0 Fr2 := addS_ok (⟨Tryz.func35, rfl, rfl, rfl, ⟨rfl, rfl⟩, ok _⟩ : FN 35 Tryz.f35).callable (fun _ => words_ok) Fr1_ok
theorem wk {k : Int} (h0 : 0 ≤ k) (h1 : k ≤ 9) : 0 ≤ k ∧ k < (wordsL.length : Int) := ⟨h0, by show k < 10; omega⟩
theorem i0 : (-9223372036854775808 : Int) ≤ 0 ∧ (0 : Int) ≤ 9223372036854775807 := by decide
theorem parts1_ok (s : ByteArray) : PF 32 (.cons (shE.mk fun _ => ((1, p0, s, ByteArray.empty, [], 0, ()) : EV)) .nil) (Sh.mkL 1 .str fun _ => partsE (1, p0, s, ByteArray.empty, [], 0, ())) := by
  refine (⟨Tryz.func32, rfl, rfl, rfl, ⟨rfl, rfl⟩, ok _⟩ : FN 32 Tryz.f32).treeP preX_ok (mkX_ok Fr2_ok emptyS_ok) (callB_ok emptyB_ok) false 60 ((.no (.yes .any))) rfl ?_
  conv => arg 5; cbv
  refine ⟨⟨wk (k := 1) (by decide) (by decide), (by show drawOK _ _ = true; decide +kernel), i0, trivial⟩, ⟨rfl, trivial⟩, ⟨rfl, trivial⟩, ⟨by decide, trivial⟩, rfl, app_sels none [wordsL.getD 1 ByteArray.empty] [s] (by simp) (by simp)⟩
theorem parts9_ok : PF 32 (.cons (shE.mk fun _ => ((9, p0, ByteArray.empty, ByteArray.empty, [], 0, ()) : EV)) .nil) (Sh.mkL 1 .str fun _ => partsE (9, p0, ByteArray.empty, ByteArray.empty, [], 0, ())) := by
  refine (⟨Tryz.func32, rfl, rfl, rfl, ⟨rfl, rfl⟩, ok _⟩ : FN 32 Tryz.f32).treeP preX_ok (mkX_ok Fr2_ok emptyS_ok) (callB_ok emptyB_ok) false 60 ((.no (.no (.no (.no (.no (.no (.no (.no (.no .any)))))))))) rfl ?_
  conv => arg 5; cbv
  exact ⟨⟨wk (k := 9) (by decide) (by decide), (by show drawOK _ _ = true; decide +kernel), i0, trivial⟩, ⟨rfl, trivial⟩, ⟨rfl, trivial⟩, ⟨rfl, trivial⟩, ⟨rfl, trivial⟩, ⟨rfl, trivial⟩, ⟨rfl, trivial⟩, ⟨rfl, trivial⟩, ⟨rfl, trivial⟩, ⟨rfl, trivial⟩, rfl, all_sels none [wordsL.getD 9 ByteArray.empty] (by simp)⟩
theorem parts3_ok (n : Int) (hn : -9223372036854775808 ≤ n ∧ n ≤ 9223372036854775807) : PF 32 (.cons (shE.mk fun _ => ((3, p0, ByteArray.empty, ByteArray.empty, [], n, ()) : EV)) .nil) (Sh.mkL 1 .str fun _ => partsE (3, p0, ByteArray.empty, ByteArray.empty, [], n, ())) := by
  refine (⟨Tryz.func32, rfl, rfl, rfl, ⟨rfl, rfl⟩, ok _⟩ : FN 32 Tryz.f32).treeP preX_ok (mkX_ok Fr2_ok emptyS_ok) (callB_ok emptyB_ok) false 60 ((.no (.no (.no (.no (.no (.yes .any))))))) rfl ?_
  conv => arg 5; cbv
  exact ⟨⟨wk (k := 3) (by decide) (by decide), (by show drawOK _ _ = true; decide +kernel), hn, trivial⟩, ⟨rfl, trivial⟩, ⟨rfl, trivial⟩, ⟨rfl, trivial⟩, ⟨rfl, trivial⟩, ⟨rfl, trivial⟩, ⟨rfl, trivial⟩, ⟨by decide, trivial⟩, rfl, app_sels none [wordsL.getD 3 ByteArray.empty] [itz n] (by simp) (by simp)⟩
theorem parts6_ok (n : Int) (hn : -9223372036854775808 ≤ n ∧ n ≤ 9223372036854775807) : PF 32 (.cons (shE.mk fun _ => ((6, p0, ByteArray.empty, ByteArray.empty, [], n, ()) : EV)) .nil) (Sh.mkL 1 .str fun _ => partsE (6, p0, ByteArray.empty, ByteArray.empty, [], n, ())) := by
  refine (⟨Tryz.func32, rfl, rfl, rfl, ⟨rfl, rfl⟩, ok _⟩ : FN 32 Tryz.f32).treeP preX_ok (mkX_ok Fr2_ok emptyS_ok) (callB_ok emptyB_ok) false 60 ((.no (.no (.no (.no (.no (.no (.yes .any)))))))) rfl ?_
  conv => arg 5; cbv
  exact ⟨⟨wk (k := 6) (by decide) (by decide), (by show drawOK _ _ = true; decide +kernel), hn, trivial⟩, ⟨rfl, trivial⟩, ⟨rfl, trivial⟩, ⟨rfl, trivial⟩, ⟨rfl, trivial⟩, ⟨rfl, trivial⟩, ⟨rfl, trivial⟩, ⟨rfl, trivial⟩, ⟨by decide, trivial⟩, rfl, app_sels none [wordsL.getD 6 ByteArray.empty] [itz n] (by simp) (by simp)⟩
theorem parts7_ok (n : Int) (hn : -9223372036854775808 ≤ n ∧ n ≤ 9223372036854775807) : PF 32 (.cons (shE.mk fun _ => ((7, p0, ByteArray.empty, ByteArray.empty, [], n, ()) : EV)) .nil) (Sh.mkL 1 .str fun _ => partsE (7, p0, ByteArray.empty, ByteArray.empty, [], n, ())) := by
  refine (⟨Tryz.func32, rfl, rfl, rfl, ⟨rfl, rfl⟩, ok _⟩ : FN 32 Tryz.f32).treeP preX_ok (mkX_ok Fr2_ok emptyS_ok) (callB_ok emptyB_ok) false 60 ((.no (.no (.no (.no (.no (.no (.no (.yes .any))))))))) rfl ?_
  conv => arg 5; cbv
  exact ⟨⟨wk (k := 7) (by decide) (by decide), (by show drawOK _ _ = true; decide +kernel), hn, trivial⟩, ⟨rfl, trivial⟩, ⟨rfl, trivial⟩, ⟨rfl, trivial⟩, ⟨rfl, trivial⟩, ⟨rfl, trivial⟩, ⟨rfl, trivial⟩, ⟨rfl, trivial⟩, ⟨rfl, trivial⟩, ⟨by decide, trivial⟩, rfl, app_sels none [wordsL.getD 7 ByteArray.empty] [itz n] (by simp) (by simp)⟩
theorem parts8_ok (n : Int) (hn : -9223372036854775808 ≤ n ∧ n ≤ 9223372036854775807) : PF 32 (.cons (shE.mk fun _ => ((8, p0, ByteArray.empty, ByteArray.empty, [], n, ()) : EV)) .nil) (Sh.mkL 1 .str fun _ => partsE (8, p0, ByteArray.empty, ByteArray.empty, [], n, ())) := by
  refine (⟨Tryz.func32, rfl, rfl, rfl, ⟨rfl, rfl⟩, ok _⟩ : FN 32 Tryz.f32).treeP preX_ok (mkX_ok Fr2_ok emptyS_ok) (callB_ok emptyB_ok) false 60 ((.no (.no (.no (.no (.no (.no (.no (.no (.yes .any)))))))))) rfl ?_
  conv => arg 5; cbv
  exact ⟨⟨wk (k := 8) (by decide) (by decide), (by show drawOK _ _ = true; decide +kernel), hn, trivial⟩, ⟨rfl, trivial⟩, ⟨rfl, trivial⟩, ⟨rfl, trivial⟩, ⟨rfl, trivial⟩, ⟨rfl, trivial⟩, ⟨rfl, trivial⟩, ⟨rfl, trivial⟩, ⟨rfl, trivial⟩, ⟨rfl, trivial⟩, ⟨by decide, trivial⟩, rfl, app_sels none [wordsL.getD 8 ByteArray.empty] [itz n] (by simp) (by simp)⟩
theorem parts4_ok (s c : ByteArray) (n : Int) (hn : -9223372036854775808 ≤ n ∧ n ≤ 9223372036854775807) : PF 32 (.cons (shE.mk fun _ => ((4, p0, s, c, [], n, ()) : EV)) .nil) (Sh.mkL 1 .str fun _ => partsE (4, p0, s, c, [], n, ())) := by
  refine (⟨Tryz.func32, rfl, rfl, rfl, ⟨rfl, rfl⟩, ok _⟩ : FN 32 Tryz.f32).treeP preX_ok (mkX_ok Fr2_ok emptyS_ok) (callB_ok emptyB_ok) false 60 ((.no (.no (.no (.yes .any))))) rfl ?_
  conv => arg 5; cbv
  exact ⟨⟨wk (k := 4) (by decide) (by decide), (by show drawOK _ _ = true; decide +kernel), hn, trivial⟩, ⟨rfl, trivial⟩, ⟨rfl, trivial⟩, ⟨rfl, trivial⟩, ⟨rfl, trivial⟩, ⟨by decide, trivial⟩, rfl, app_sels none [wordsL.getD 4 ByteArray.empty] [s, c, itz n] (by simp) (by simp)⟩
theorem parts5_ok (s c : ByteArray) (n : Int) (hn : -9223372036854775808 ≤ n ∧ n ≤ 9223372036854775807) : PF 32 (.cons (shE.mk fun _ => ((5, p0, s, c, [], n, ()) : EV)) .nil) (Sh.mkL 1 .str fun _ => partsE (5, p0, s, c, [], n, ())) := by
  refine (⟨Tryz.func32, rfl, rfl, rfl, ⟨rfl, rfl⟩, ok _⟩ : FN 32 Tryz.f32).treeP preX_ok (mkX_ok Fr2_ok emptyS_ok) (callB_ok emptyB_ok) false 60 ((.no (.no (.no (.no (.yes .any)))))) rfl ?_
  conv => arg 5; cbv
  exact ⟨⟨wk (k := 5) (by decide) (by decide), (by show drawOK _ _ = true; decide +kernel), hn, trivial⟩, ⟨rfl, trivial⟩, ⟨rfl, trivial⟩, ⟨rfl, trivial⟩, ⟨rfl, trivial⟩, ⟨rfl, trivial⟩, ⟨by decide, trivial⟩, rfl, app_sels none [wordsL.getD 5 ByteArray.empty] [s, c, itz n] (by simp) (by simp)⟩
end Go.Proofs.YtpbjcabecalpaaaGreatDoor
namespace Go.Proofs.YtpbjcabecalpaaaGreatDoor
open Go Go.Abs Go.Proofs
structure PaX where
  i : Nat
  ws : List ByteArray
def qaA (hs : List HV) (x : PaX) : Env := [(76, .int .i64 fun _ => (x.i : Int)), (75, .int .i64 fun _ => (hs.length : Int)), (74, Sh.mkL 7 shH fun _ => hs), (3, .slice (some 0) 1 (fun _ => (x.ws.length : Int)) fun j => .str fun _ => (x.ws : List ByteArray).getD (j ()).toNat ByteArray.empty)]
def qaS : Store := [(0, .own 1 9)]
theorem drop_at {α : Type} {l : List α} {i : Nat} (d : α) (hi : i < l.length) : l.drop i = l.getD i d :: l.drop (i + 1) := by
  rw [← List.getElem_cons_drop hi, List.getD_eq_getElem?_getD, List.getElem?_eq_getElem hi]; rfl
theorem parts2_ok (s : ByteArray) (hs : List HV) (hl : hs.length ≤ 1000) : PF 32 (.cons (shE.mk fun _ => ((2, p0, s, ByteArray.empty, hs, 0, ()) : EV)) .nil) (Sh.mkL 1 .str fun _ => partsE (2, p0, s, ByteArray.empty, hs, 0, ())) := by
  refine (⟨Tryz.func32, rfl, rfl, rfl, ⟨rfl, rfl⟩, ok _⟩ : FN 32 Tryz.f32).treeP preX_ok (mkX_ok Fr2_ok emptyS_ok) (callB_ok emptyB_ok) false 60 ((.no (.no (.yes .any)))) rfl ?_
  conv => arg 5; cbv
  refine ⟨⟨wk (k := 2) (by decide) (by decide), (by show drawOK _ _ = true; decide +kernel), i0, trivial⟩, ⟨rfl, trivial⟩, ⟨rfl, trivial⟩, ⟨rfl, trivial⟩, ⟨by decide, trivial⟩, ?_⟩
  refine run_inv (ι := PaX) (fun x => hs.length - x.i) (fun x => x.i ≤ hs.length ∧ x.ws ++ (hs.drop x.i).flatMap chW = partsE (2, p0, s, ByteArray.empty, hs, 0, ()) ∧ x.ws.length = 2 + 3 * x.i) (qaA hs) (fun _ => qaS) 1 ⟨0, [wordsL.getD 2 ByteArray.empty, s]⟩ (fun i => bif beqN i 0 then 3 else i) (by rfl) (by rfl) ⟨Nat.zero_le _, rfl, rfl⟩ ?_ ⟨impP_refl _, impP_refl _, impP_refl _, app_sels (some 3) [wordsL.getD 2 ByteArray.empty] [s] (by simp) (by simp), trivial⟩ ⟨⟨rfl, rfl⟩, trivial⟩
  rintro ⟨i, ws⟩ hi ih
  dsimp only at hi
  refine exploreP_ok (by first | exact ok _ | exact (ok _).at _ | exact (ok _).round _) preX_ok (mkX_ok Fr2_ok emptyS_ok) (callB_ok emptyB_ok) (u := false) 60 (.any) _ rfl ?_
  conv => arg 5; cbv
  have hi1 := hi.1
  refine ⟨fun h => ?_, fun h => ?_⟩
  · have h : (i : Int) < (hs.length : Int) := of_decide_eq_true h
    have hi2 : i < hs.length := by omega
    have hw : IntKind.i64.wrap ((i : Int) + 1) = ((i + 1 : Nat) : Int) := by rw [IntWalk.i64_in _ ⟨by omega, by omega⟩]; omega
    have h3 := hi.2.2
    refine ⟨⟨⟨Int.natCast_nonneg i, h⟩, ?_, (by show drawOK _ _ = true; decide +kernel), trivial⟩, ?_⟩
    · show (0 : Int) < 3 ∧ ((ws.length : Int) + 3) * 16 ≤ 140737488355328
      omega
    have e := drop_at h0 hi2
    refine ih ⟨i + 1, ws ++ chW (hs.getD i h0)⟩ (fun i => bif beqN i 0 then 3 else i) ⟨by show i + 1 ≤ hs.length; omega, ?_, ?_⟩ (by show hs.length - (i + 1) < hs.length - i; omega) (by rfl) ⟨⟨rfl, hw⟩, impP_refl _, impP_refl _, app_strs (some 3) ws (chW (hs.getD i h0)) (by simp [chW]), trivial⟩ ⟨⟨rfl, rfl⟩, trivial⟩
    · have := hi.2.1
      rw [e, List.flatMap_cons, ← List.append_assoc] at this
      exact this
    · show (ws ++ chW (hs.getD i h0)).length = 2 + 3 * (i + 1)
      rw [List.length_append, h3]; simp [chW]; omega
  · have h : ¬ (i : Int) < (hs.length : Int) := of_decide_eq_false h
    have e : ws = partsE (2, p0, s, ByteArray.empty, hs, 0, ()) := by
      have := hi.2.1
      rw [List.drop_eq_nil_of_le (by omega)] at this
      simpa using this
    rw [← e]
    exact ⟨rfl, .inl rfl, rfl, rfl, fun j _ _ => impP_refl _⟩
def qcA (l : List CV) (x : PaX) : Env := [(40, .int .i64 fun _ => (x.i : Int)), (39, .int .i64 fun _ => (l.length : Int)), (38, Sh.mkL 10 shC fun _ => l), (3, .slice (some 0) 1 (fun _ => (x.ws.length : Int)) fun j => .str fun _ => (x.ws : List ByteArray).getD (j ()).toNat ByteArray.empty)]
theorem parts0_ok (p : PoV) (hl : p.2.2.2.1.length ≤ 1000) (h1 : -9223372036854775808 ≤ p.2.1 ∧ p.2.1 ≤ 9223372036854775807) (h2 : -9223372036854775808 ≤ p.2.2.1 ∧ p.2.2.1 ≤ 9223372036854775807) : PF 32 (.cons (shE.mk fun _ => ((0, p, ByteArray.empty, ByteArray.empty, [], 0, ()) : EV)) .nil) (Sh.mkL 1 .str fun _ => partsE (0, p, ByteArray.empty, ByteArray.empty, [], 0, ())) := by
  obtain ⟨nm, pr, po, l, ⟨⟩⟩ := p
  have hl : l.length ≤ 1000 := hl
  refine (⟨Tryz.func32, rfl, rfl, rfl, ⟨rfl, rfl⟩, ok _⟩ : FN 32 Tryz.f32).treeP preX_ok (mkX_ok Fr2_ok emptyS_ok) (callB_ok emptyB_ok) false 60 ((.yes .any)) rfl ?_
  conv => arg 5; cbv
  refine ⟨⟨wk (k := 0) (by decide) (by decide), (by show drawOK _ _ = true; decide +kernel), i0, trivial⟩, ⟨rfl, trivial⟩, ⟨h1, h2, by decide, (by show drawOK _ _ = true; decide +kernel), trivial⟩, ?_⟩
  refine run_inv (ι := PaX) (fun x => l.length - x.i) (fun x => x.i ≤ l.length ∧ x.ws ++ (l.drop x.i).flatMap conW = partsE (0, (nm, pr, po, l, ()), ByteArray.empty, ByteArray.empty, [], 0, ()) ∧ x.ws.length = 4 + 4 * x.i) (qcA l) (fun _ => qaS) 1 ⟨0, [wordsL.getD 0 ByteArray.empty, nm, itz pr, itz po]⟩ (fun i => bif beqN i 0 then 3 else i) (by rfl) (by rfl) ⟨Nat.zero_le _, rfl, rfl⟩ ?_ ⟨impP_refl _, impP_refl _, impP_refl _, app_sels (some 3) [wordsL.getD 0 ByteArray.empty] [nm, itz pr, itz po] (by simp) (by simp), trivial⟩ ⟨⟨rfl, rfl⟩, trivial⟩
  rintro ⟨i, ws⟩ hi ih
  dsimp only at hi
  refine exploreP_ok (by first | exact ok _ | exact (ok _).at _ | exact (ok _).round _) preX_ok (mkX_ok Fr2_ok emptyS_ok) (callB_ok emptyB_ok) (u := false) 60 (.any) _ rfl ?_
  conv => arg 5; cbv
  have hi1 := hi.1
  refine ⟨fun h => ?_, fun h => ?_⟩
  · have h : (i : Int) < (l.length : Int) := of_decide_eq_true h
    have hi2 : i < l.length := by omega
    have hw : IntKind.i64.wrap ((i : Int) + 1) = ((i + 1 : Nat) : Int) := by rw [IntWalk.i64_in _ ⟨by omega, by omega⟩]; omega
    have h3 := hi.2.2
    refine ⟨⟨⟨Int.natCast_nonneg i, h⟩, ?_, (by show drawOK _ _ = true; decide +kernel), trivial⟩, ?_⟩
    · show (0 : Int) < 4 ∧ ((ws.length : Int) + 4) * 16 ≤ 140737488355328
      omega
    have e := drop_at c0 hi2
    refine ih ⟨i + 1, ws ++ conW (l.getD i c0)⟩ (fun i => bif beqN i 0 then 3 else i) ⟨by show i + 1 ≤ l.length; omega, ?_, ?_⟩ (by show l.length - (i + 1) < l.length - i; omega) (by rfl) ⟨⟨rfl, hw⟩, impP_refl _, impP_refl _, app_strs (some 3) ws (conW (l.getD i c0)) (by simp [conW]), trivial⟩ ⟨⟨rfl, rfl⟩, trivial⟩
    · have := hi.2.1
      rw [e, List.flatMap_cons, ← List.append_assoc] at this
      exact this
    · show (ws ++ conW (l.getD i c0)).length = 4 + 4 * (i + 1)
      rw [List.length_append, h3]; simp [conW]; omega
  · have h : ¬ (i : Int) < (l.length : Int) := of_decide_eq_false h
    have e : ws = partsE (0, (nm, pr, po, l, ()), ByteArray.empty, ByteArray.empty, [], 0, ()) := by
      have := hi.2.1
      rw [List.drop_eq_nil_of_le (by omega)] at this
      simpa using this
    rw [← e]
    exact ⟨rfl, .inl rfl, rfl, rfl, fun j _ _ => impP_refl _⟩
end Go.Proofs.YtpbjcabecalpaaaGreatDoor
namespace Go.Proofs.YtpbjcabecalpaaaGreatDoor
open Go Go.Abs Go.Proofs
def goL : List ByteArray → List EV → List EV × Int × Int
  | [], acc => (acc, 0, 0)
  | [p], acc => if p = ByteArray.empty then (acc, 0, 0) else if 1000 ≤ acc.length then ([], 1001, 12) else ([], (acc.length : Int) + 1, 10)
  | p :: q :: r, acc => if 1000 ≤ acc.length then ([], 1001, 12) else if (parseE p).2 = true then goL (q :: r) (acc ++ [(parseE p).1]) else ([], (acc.length : Int) + 1, 11)
def linesE (s : ByteArray) : List EV × Int × Int := goL (spB 10 s) []
def nlB : ByteArray := ⟨#[10]⟩
def scrG : List EV → ByteArray → ByteArray
  | [], acc => acc
  | e :: l, acc => if textE e = ByteArray.empty then ByteArray.empty else scrG l (acc ++ (textE e ++ nlB))
def scriptE (l : List EV) : ByteArray := scrG l ByteArray.empty
theorem text_right {e : EV} (h : rightB e = true) : textE e ≠ ByteArray.empty := by
  intro k
  have hs : spB 32 (textE e) = partsE e := by
    rw [show textE e = joinB (partsE e) ⟨#[32]⟩ from if_pos h]
    exact spB_join fun x hx => gd_sp (parts_gd h x hx)
  rw [k] at hs
  have hs : [ByteArray.empty] = partsE e := hs
  have hk : wordsL.getD e.1.toNat ByteArray.empty = ByteArray.empty := by
    unfold partsE at hs
    injection hs with h1 _
    exact h1.symm
  have hn : ∀ k, k < 10 → wordsL.getD k ByteArray.empty ≠ ByteArray.empty := by decide
  refine hn e.1.toNat ?_ hk
  rcases right_kinds h with ⟨p, hp, rfl⟩ | ⟨s, hs, rfl⟩ | ⟨s, hs, h1, l1, l2, h2, rfl⟩ | ⟨k', s, c, n, hk, h1, h2, h3, rfl⟩ | ⟨k', n, hk, h3, rfl⟩ | rfl
  · show (0 : Int).toNat < 10; decide
  · show (1 : Int).toNat < 10; decide
  · show (2 : Int).toNat < 10; decide
  · show k'.toNat < 10; omega
  · show k'.toNat < 10; omega
  · show (9 : Int).toNat < 10; decide
theorem text_wrong {e : EV} (h : rightB e = false) : textE e = ByteArray.empty := by
  unfold textE
  rw [h]; rfl
theorem script_wrong : ∀ {l : List EV} {a : ByteArray}, (l.all rightB) = false → scrG l a = ByteArray.empty
  | [], a, h => by cases h
  | e :: l, a, h => by
    unfold scrG
    cases he : rightB e with
    | false => rw [if_pos (text_wrong he)]
    | true =>
      rw [if_neg (text_right he)]
      refine script_wrong ?_
      rw [List.all_cons, he, Bool.true_and] at h
      exact h
def bodyS (l : List EV) : List UInt8 := l.flatMap fun e => (textE e).data.toList ++ [10]
theorem script_right : ∀ {l : List EV} {a : ByteArray}, (∀ e ∈ l, rightB e = true) → (scrG l a).data.toList = a.data.toList ++ bodyS l
  | [], a, h => by simp [scrG, bodyS]
  | e :: l, a, h => by
    unfold scrG
    rw [if_neg (text_right (h e (by simp))), script_right fun x hx => h x (by simp [hx])]
    simp [bodyS, nlB, List.flatMap_cons]
theorem sp_body : ∀ (l : List EV), spL 10 (bodyS l) = (l.map fun e => (textE e).data.toList) ++ [[]]
  | [] => rfl
  | e :: l => by
    have e1 : bodyS (e :: l) = (textE e).data.toList ++ 10 :: bodyS l := by simp [bodyS, List.flatMap_cons]
    rw [e1, spL_app _ text_nl, sp_body l]
    rfl
theorem sp_script {l : List EV} (h : ∀ e ∈ l, rightB e = true) : spB 10 (scriptE l) = l.map textE ++ [ByteArray.empty] := by
  unfold spB scriptE
  rw [script_right h]
  show (spL 10 (ByteArray.empty.data.toList ++ bodyS l)).map toB = _
  rw [show ByteArray.empty.data.toList ++ bodyS l = bodyS l from rfl, sp_body, List.map_append, List.map_map]
  congr 1
theorem go_back : ∀ {l acc : List EV}, (∀ e ∈ l, rightB e = true) → (∀ e ∈ l, res3 e) → acc.length + l.length ≤ 1000 → goL (l.map textE ++ [ByteArray.empty]) acc = (acc ++ l, 0, 0)
  | [], acc, _, _, _ => by
    show goL [ByteArray.empty] acc = _
    unfold goL
    rw [if_pos rfl, List.append_nil]
  | e :: l, acc, h, h3, hl => by
    have hl : acc.length + (l.length + 1) ≤ 1000 := hl
    obtain ⟨q, r, hq⟩ : ∃ q r, l.map textE ++ [ByteArray.empty] = q :: r := by
      cases l with
      | nil => exact ⟨_, _, rfl⟩
      | cons x l => exact ⟨_, _, rfl⟩
    show goL (textE e :: (l.map textE ++ [ByteArray.empty])) acc = _
    rw [hq]
    unfold goL
    rw [if_neg (by omega), parse_text (h e (by simp)) (h3 e (by simp)), if_pos rfl, ← hq,
      go_back (fun x hx => h x (by simp [hx])) (fun x hx => h3 x (by simp [hx])) (by rw [List.length_append, List.length_singleton]; omega), List.append_assoc]
    try rfl
theorem lines_script {l : List EV} (h : ∀ e ∈ l, rightB e = true) (h3 : ∀ e ∈ l, res3 e) (hl : l.length ≤ 1000) : linesE (scriptE l) = (l, 0, 0) := by
  unfold linesE
  rw [sp_script h, go_back h h3 (by simpa using hl), List.nil_append]
theorem parse_same {s : ByteArray} (h : (parseE s).2 = true) : textE (parseE s).1 = s ∧ rightB (parseE s).1 = true := by
  unfold parseE at *
  split
  · rename_i k; exact ⟨k.2, k.1⟩
  · rename_i k; rw [if_neg k] at h; cases h
end Go.Proofs.YtpbjcabecalpaaaGreatDoor
