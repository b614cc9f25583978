/- A part of what the walks of this claim stand on. -/
import Derived.Test.YtpbjcabecalpaaaGreatDoorWah
import Derived.Lib.AtoiTie
import Derived.Lib.SlicesS
set_option maxRecDepth 2000
set_option linter.unusedVariables false
set_option linter.unusedSimpArgs false
namespace Go.Proofs.YtpbjcabecalpaaaGreatDoor
open Go Go.Abs Go.Proofs
def atz (s : ByteArray) : Int := match Lib.atoiAll s.data.toList with
 | .ok v => v
 | Lib.NumEnd.syntax => 0
 | .range => Lib.atoiSat s.data.toList
def wordsL : List ByteArray := [⟨#[97, 100, 100]⟩, ⟨#[114, 101, 109, 111, 118, 101]⟩, ⟨#[114, 101, 115, 105, 122, 101]⟩, ⟨#[116, 105, 99, 107]⟩, ⟨#[101, 120, 105, 116]⟩, ⟨#[117, 115, 101]⟩, ⟨#[102, 97, 105, 108]⟩, ⟨#[99, 117, 116]⟩, ⟨#[116, 101, 97, 114]⟩, ⟨#[112, 111, 119, 101, 114]⟩]
def vtxt (v : VV) : ByteArray := if vRight v.1 v.2.1 v.2.2.1 = true then toB (vText v.1.toNat v.2.1.toNat v.2.2.1.toNat) else ⟨#[]⟩
def conW (c : CV) : List ByteArray := [c.1, vtxt c.2.1, vtxt c.2.2.1, rsB c.2.2.2.1]
def chW (c : HV) : List ByteArray := [c.1, vtxt c.2.1, vtxt c.2.2.1]
def tailE (e : EV) : List ByteArray :=
 if e.1 = 0 then e.2.1.1 :: itz e.2.1.2.1 :: itz e.2.1.2.2.1 :: e.2.1.2.2.2.1.flatMap conW
 else if e.1 = 1 then [e.2.2.1]
 else if e.1 = 2 then e.2.2.1 :: e.2.2.2.2.1.flatMap chW
 else if e.1 = 4 \/ e.1 = 5 then [e.2.2.1, e.2.2.2.1, itz e.2.2.2.2.2.1]
 else if e.1 = 3 \/ e.1 = 6 \/ e.1 = 7 \/ e.1 = 8 then [itz e.2.2.2.2.2.1] else []
def partsE (e : EV) : List ByteArray := wordsL.getD e.1.toNat ByteArray.empty :: tailE e
def textE (e : EV) : ByteArray := if rightB e = true then joinB (partsE e) ⟨#[32]⟩ else ⟨#[]⟩
def wd (w : List ByteArray) (i : Nat) : ByteArray := w.getD i ByteArray.empty
def rawK (w : List ByteArray) (k : Int) : EV :=
 if k = 0 /\ 4 < w.length then (0, (wd w 1, atz (wd w 2), atz (wd w 3), consOf (w.drop 4), ()), ByteArray.empty, ByteArray.empty, [], 0, ())
 else if k = 1 /\ 1 < w.length then (1, p0, wd w 1, ByteArray.empty, [], 0, ())
 else if k = 2 /\ 1 < w.length then (2, p0, wd w 1, ByteArray.empty, chsOf (w.drop 2), 0, ())
 else if (k = 4 \/ k = 5) /\ 3 < w.length then (k, p0, wd w 1, wd w 2, [], atz (wd w 3), ())
 else if 1 < w.length then (k, p0, ByteArray.empty, ByteArray.empty, [], atz (wd w 1), ())
 else (k, p0, ByteArray.empty, ByteArray.empty, [], 0, ())
def rawE (w : List ByteArray) : EV := rawK w (Lib.idxOfS wordsL (wd w 0))
def e0 : EV := (0, p0, ByteArray.empty, ByteArray.empty, [], 0, ())
def parseE (s : ByteArray) : EV × Bool := if rightB (rawE (spB 32 s)) = true /\ textE (rawE (spB 32 s)) = s then (rawE (spB 32 s), true) else (e0, false)
theorem right_iff {e : EV} : rightB e = true ↔ fitsB e = true /\ e = bareE e := by
 unfold rightB
 rw [Bool.and_eq_true]
 exact ⟨fun h => ⟨h.1, evB_iff.1 h.2⟩, fun h => ⟨h.1, evB_iff.2 h.2⟩⟩
theorem right_kinds {e : EV} (h : rightB e = true) :
  (∃ p, podB p = true /\ e = (0, p, ByteArray.empty, ByteArray.empty, [], 0, ())) \/
  (∃ s, nameB s = true /\ e = (1, p0, s, ByteArray.empty, [], 0, ())) \/
  (∃ s hs, nameB s = true /\ 0 < List.length (α := HV) hs /\ List.length (α := HV) hs <= 6 /\ (∀ c ∈ hs, chB c = true) /\ e = (2, p0, s, ByteArray.empty, hs, 0, ())) \/
  (∃ k s c n, (k = 4 \/ k = 5) /\ nameB s = true /\ nameB c = true /\ numB n = true /\ e = (k, p0, s, c, [], n, ())) \/
  (∃ k n, (k = 3 \/ k = 6 \/ k = 7 \/ k = 8) /\ numB n = true /\ e = (k, p0, ByteArray.empty, ByteArray.empty, [], n, ())) \/
  e = (9, p0, ByteArray.empty, ByteArray.empty, [], 0, ()) := by
 obtain ⟨hf, hb⟩ := right_iff.1 h
 obtain ⟨k, p, s, c, hs, n, ⟨⟩⟩ := e
 have hb : (k, p, s, c, hs, n, ()) = ((k, if k = 0 then p else p0, if k = 1 \/ k = 2 \/ k = 4 \/ k = 5 then s else ByteArray.empty, if k = 4 \/ k = 5 then c else ByteArray.empty, if k = 2 then hs else [], if 3 <= k /\ k <= 8 then n else 0, ()) : EV) := hb
 unfold fitsB at hf
 dsimp only at hf
 by_cases k0 : k = 0
 ·subst k0
  refine .inl ⟨p, by simpa using hf, hb.trans rfl⟩
 by_cases k1 : k = 1
 ·subst k1
  exact .inr (.inl ⟨s, by simpa using hf, hb.trans rfl⟩)
 by_cases k2 : k = 2
 ·subst k2
  rw [if_neg (by decide), if_neg (by decide), if_pos rfl] at hf
  simp only [Bool.and_eq_true, decide_eq_true_eq] at hf
  obtain ⟨⟨⟨h1, h2⟩, h3⟩, h4⟩ := hf
  exact .inr (.inr (.inl ⟨s, hs, h1, by omega, by omega, badH_iff.1 h4, hb.trans rfl⟩))
 by_cases k3 : k = 3
 ·subst k3
  rw [if_neg (by decide), if_neg (by decide), if_neg (by decide), if_pos rfl] at hf
  simp only [Bool.and_eq_true, decide_eq_true_eq] at hf
  exact .inr (.inr (.inr (.inr (.inl ⟨3, n, by decide, by unfold numB; simp only [Bool.and_eq_true, decide_eq_true_eq]; omega, hb.trans rfl⟩))))
 by_cases k4 : k = 4 \/ k = 5
 ·rw [if_neg k0, if_neg k1, if_neg k2, if_neg k3, if_pos k4] at hf
  simp only [Bool.and_eq_true] at hf
  refine .inr (.inr (.inr (.inl ⟨k, s, c, n, k4, hf.1.1, hf.1.2, hf.2, hb.trans ?_⟩)))
  rcases k4 with rfl | rfl <;> rfl
 by_cases k6 : k = 6 \/ k = 7 \/ k = 8
 ·rw [if_neg k0, if_neg k1, if_neg k2, if_neg k3, if_neg k4, if_pos k6] at hf
  refine .inr (.inr (.inr (.inr (.inl ⟨k, n, by omega, hf, hb.trans ?_⟩))))
  rcases k6 with rfl | rfl | rfl <;> rfl
 rw [if_neg k0, if_neg k1, if_neg k2, if_neg k3, if_neg k4, if_neg k6] at hf
 obtain rfl : k = 9 := by simpa using hf
 exact .inr (.inr (.inr (.inr (.inr (hb.trans rfl)))))
def gd (c : UInt8) : Bool := decide (c.toNat ≠ 32) && decide (c.toNat ≠ 10)
def gdB (s : ByteArray) : Prop := ∀ c ∈ s.data.toList, gd c = true
theorem gd_sp {s : ByteArray} (h : gdB s) : ¬ (32 : UInt8) ∈ s.data.toList := fun k => by have := h _ k; revert this; decide
theorem gd_dig {c : UInt8} (h : isD c = true) : gd c = true := by
 unfold isD at h
 unfold gd
 simp only [Bool.and_eq_true, decide_eq_true_eq] at h ⊢
 omega
theorem gd_name {s : ByteArray} (h : nameB s = true) : gdB s := by
 obtain ⟨_, _, h3⟩ := nameB_iff.1 h
 intro c hc
 obtain ⟨j, hj, rfl⟩ := List.getElem_of_mem hc
 have hs : s.data.toList.length = s.size := size_toB s
 have := h3 j (by omega)
 have e : byteAt s (j : Int) = (s.data.toList[j].toNat : Int) := by
  unfold byteAt
  rw [Int.toNat_natCast, List.getD_eq_getElem?_getD, List.getElem?_eq_getElem hj]; rfl
 rw [e] at this
 unfold rd1 at this
 unfold gd
 simp only [Bool.and_eq_true, decide_eq_true_eq]
 omega
theorem gd_decD (n : Nat) : ∀ c ∈ Lib.decDigits n, gd c = true := fun c hc => gd_dig (List.all_eq_true.1 (decDigits_dig n).1 c hc)
theorem gd_itz (n : Int) : gdB (itz n) := by
 intro c hc
 have hc : c ∈ Lib.itoa n := hc
 unfold Lib.itoa at hc
 split at hc
 ·rcases List.mem_cons.1 hc with rfl | hc
  ·decide
  ·exact gd_decD _ c hc
 ·exact gd_decD _ c hc
theorem gd_suf (k : Nat) : (∀ c ∈ sufA k, gd c = true) /\ ∀ c ∈ sufB k, gd c = true := by
 have h : ∀ j, j < 11 -> (∀ c ∈ sufA j, gd c = true) /\ ∀ c ∈ sufB j, gd c = true := by decide +kernel
 by_cases hk : k < 11
 ·exact h k hk
 ·have e1 : sufA k = [] := by unfold sufA; rw [List.getD_eq_getElem?_getD, List.getElem?_eq_none (by simp; omega)]; rfl
  have e2 : sufB k = [] := by unfold sufB; rw [List.getD_eq_getElem?_getD, List.getElem?_eq_none (by simp; omega)]; rfl
  rw [e1, e2]
  exact ⟨fun c h => by simp at h, fun c h => by simp at h⟩
theorem gd_atext (v : Nat) : ∀ c ∈ atext v, gd c = true := by
 intro c hc
 unfold atext at hc
 split at hc
 ·rw [List.mem_singleton] at hc; subst hc; decide
 ·rcases List.mem_append.1 hc with hc | hc
  ·exact gd_decD _ c hc
  ·exact (gd_suf _).1 c hc
theorem gd_btext (v : Nat) : ∀ c ∈ btext v, gd c = true := by
 intro c hc
 unfold btext at hc
 split at hc
 ·exact gd_atext _ c hc
 ·rcases List.mem_append.1 hc with hc | hc
  ·exact gd_decD _ c hc
  ·exact (gd_suf _).2 c hc
theorem join_mem {s : UInt8} : ∀ (l : List (List UInt8)) (c : UInt8), c ∈ Lib.join l [s] -> c = s \/ ∃ x ∈ l, c ∈ x
 | [], c, h => by rw [Lib.join_nil] at h; cases h
 | [x], c, h => .inr ⟨x, by simp, by simpa [Lib.join] using h⟩
 | x :: y :: r, c, h => by
   have e : Lib.join (x :: y :: r) [s] = x ++ ([s] ++ Lib.join (y :: r) [s]) := by simp [Lib.join]
   rw [e] at h
   rcases List.mem_append.1 h with h | h
   · exact .inr ⟨x, by simp, h⟩
   · rcases List.mem_append.1 h with h | h
     · exact .inl (by simpa using h)
     · rcases join_mem (y :: r) c h with h | ⟨z, hz, hc⟩
       · exact .inl h
       · exact .inr ⟨z, by simp [List.mem_cons.1 hz], hc⟩
theorem gd_nm : (∀ c ∈ sCpu, gd c = true) /\ (∀ c ∈ sMem, gd c = true) /\ ∀ c ∈ sHug, gd c = true := by decide
theorem gd_key {n t : List UInt8} (hn : ∀ c ∈ n, gd c = true) (ht : ∀ c ∈ t, gd c = true) : ∀ c ∈ n ++ 61 :: t, gd c = true := by
 intro c hc
 rcases List.mem_append.1 hc with hc | hc
 ·exact hn c hc
 ·rcases List.mem_cons.1 hc with rfl | hc
  ·decide
  ·exact ht c hc
theorem gd_vParts (c m h : Nat) : ∀ x ∈ vParts c m h, ∀ b ∈ x, gd b = true := by
 intro x hx
 unfold vParts at hx
 rcases List.mem_append.1 hx with hx | hx
 ·split at hx
  ·rw [List.mem_singleton] at hx; subst hx; exact gd_key gd_nm.1 (gd_atext _)
  ·cases hx
 ·rcases List.mem_append.1 hx with hx | hx
  ·split at hx
   ·rw [List.mem_singleton] at hx; subst hx; exact gd_key gd_nm.2.1 (gd_btext _)
   ·cases hx
  ·split at hx
   ·rw [List.mem_singleton] at hx; subst hx; exact gd_key gd_nm.2.2 (gd_btext _)
   ·cases hx
theorem gd_vtxt (v : VV) : gdB (vtxt v) := by
 intro b hb
 unfold vtxt at hb
 split at hb
 ·have hb : b ∈ vText _ _ _ := hb
  unfold vText at hb
  split at hb
  ·rw [List.mem_singleton] at hb; subst hb; decide
  ·rcases join_mem _ b hb with rfl | ⟨x, hx, hc⟩
   ·decide
   ·exact gd_vParts _ _ _ x hx b hc
 ·simp at hb
theorem gd_rsB (l : List Bool) : gdB (rsB l) := by
 unfold rsB gdB
 generalize l.getD 0 false = a
 generalize l.getD 1 false = b
 generalize l.getD 2 false = c
 revert a b c; decide
theorem gd_words (k : Nat) : gdB (wordsL.getD k ByteArray.empty) := by
 by_cases hk : k < 10
 ·have : ∀ j, j < 10 -> gdB (wordsL.getD j ByteArray.empty) := by unfold gdB; decide
  exact this k hk
 ·have e : wordsL.getD k ByteArray.empty = ByteArray.empty := by rw [List.getD_eq_getElem?_getD, List.getElem?_eq_none (by show 10 <= k; omega)]; rfl
  rw [e]
  intro c hc
  simp at hc
theorem contB_parts {c : CV} (h : contB c = true) : nameB c.1 = true /\ vvB c.2.1 = true /\ vvB c.2.2.1 = true := by
 unfold contB at h
 simp only [Bool.and_eq_true] at h
 exact ⟨h.1.1.1.1.1, h.1.1.1.1.2, h.1.1.1.2⟩
theorem chB_parts {c : HV} (h : chB c = true) : nameB c.1 = true /\ vvB c.2.1 = true /\ vvB c.2.2.1 = true := by
 unfold chB at h
 simp only [Bool.and_eq_true] at h
 exact ⟨h.1.1, h.1.2, h.2⟩
theorem pod_parts {p : PoV} (h : podB p = true) : nameB p.1 = true /\ (-1000 <= p.2.1 /\ p.2.1 <= 1000) /\ (0 <= p.2.2.1 /\ p.2.2.1 <= 2) /\ (1 <= p.2.2.2.1.length /\ p.2.2.2.1.length <= 6) /\ ∀ c ∈ p.2.2.2.1, contB c = true := by
 obtain ⟨nm, pr, po, l, ⟨⟩⟩ := p
 obtain ⟨h1, h2, h3, h4, h5, _⟩ := podB_iff.1 h
 refine ⟨h1, h2, h3, h4, fun c hc => ?_⟩
 obtain ⟨j, hj, rfl⟩ := List.getElem_of_mem hc
 have := (h5 j hj).2
 rw [List.getD_eq_getElem?_getD, List.getElem?_eq_getElem hj] at this
 exact this
theorem parts_gd {e : EV} (h : rightB e = true) : ∀ x ∈ partsE e, gdB x := by
 intro x hx
 rcases List.mem_cons.1 hx with rfl | hx
 ·exact gd_words _
 rcases right_kinds h with ⟨p, hp, rfl⟩ | ⟨s, hs, rfl⟩ | ⟨s, hs, h1, _, _, h2, rfl⟩ | ⟨k, s, c, n, hk, h1, h2, h3, rfl⟩ | ⟨k, n, hk, h3, rfl⟩ | rfl
 ·obtain ⟨p1, _, _, _, p5⟩ := pod_parts hp
  have hx : x ∈ p.1 :: itz p.2.1 :: itz p.2.2.1 :: p.2.2.2.1.flatMap conW := hx
  simp only [List.mem_cons, List.mem_flatMap] at hx
  rcases hx with rfl | rfl | rfl | ⟨c, hc, hx⟩
  ·exact gd_name p1
  ·exact gd_itz _
  ·exact gd_itz _
  ·have := contB_parts (p5 c hc)
   simp only [conW, List.mem_cons, List.not_mem_nil, or_false] at hx
   rcases hx with rfl | rfl | rfl | rfl
   ·exact gd_name this.1
   ·exact gd_vtxt _
   ·exact gd_vtxt _
   ·exact gd_rsB _
 ·have hx : x ∈ [s] := hx
  rw [List.mem_singleton] at hx; subst hx; exact gd_name hs
 ·have hx : x ∈ s :: hs.flatMap chW := hx
  simp only [List.mem_cons, List.mem_flatMap] at hx
  rcases hx with rfl | ⟨c, hc, hx⟩
  ·exact gd_name h1
  ·have := chB_parts (h2 c hc)
   simp only [chW, List.mem_cons, List.not_mem_nil, or_false] at hx
   rcases hx with rfl | rfl | rfl
   ·exact gd_name this.1
   ·exact gd_vtxt _
   ·exact gd_vtxt _
 ·have hx : x ∈ [s, c, itz n] := by rcases hk with rfl | rfl <;> exact hx
  simp only [List.mem_cons, List.not_mem_nil, or_false] at hx
  rcases hx with rfl | rfl | rfl
  ·exact gd_name h1
  ·exact gd_name h2
  ·exact gd_itz _
 ·have hx : x ∈ [itz n] := by rcases hk with rfl | rfl | rfl | rfl <;> exact hx
  rw [List.mem_singleton] at hx; subst hx; exact gd_itz _
 ·cases hx
theorem decFrom_val : ∀ (l : List UInt8) (a : Nat), l.all isD = true -> Lib.decFrom a l = some (l.foldl (fun n c => n * 10 + (c.toNat - 48)) a)
 | [], a, _ => rfl
 | c :: l, a, h => by
   rw [List.all_cons, Bool.and_eq_true] at h
   have hd : Lib.digitVal c = some (c.toNat - 48) := by
     have := h.1
     unfold isD at this
     simp only [Bool.and_eq_true, decide_eq_true_eq] at this
     unfold Lib.digitVal
     rw [if_pos this]
   unfold Lib.decFrom
   rw [hd]
   exact decFrom_val l _ h.2
theorem decNat_dec (n : Nat) : Lib.decNat (Lib.decDigits n) = some n := by
 obtain ⟨h1, h2, h3, _⟩ := decDigits_dig n
 unfold Lib.decNat
 rw [if_neg (by simpa using h3), decFrom_val _ _ h1]
 exact congrArg some h2
theorem atoi_itoa (n : Int) : Lib.atoi (Lib.itoa n) = some n := by
 unfold Lib.itoa
 split
 ·rename_i h
  have e : Lib.atoi (45 :: Lib.decDigits n.natAbs) = (Lib.decNat (Lib.decDigits n.natAbs)).map fun (m : Nat) => -(m : Int) := rfl
  rw [e, decNat_dec]
  show some (-((n.natAbs : Nat) : Int)) = some n
  congr 1; omega
 ·rename_i h
  obtain ⟨h1, h2, h3, _⟩ := decDigits_dig n.toNat
  have hv := decNat_dec n.toNat
  cases hl : Lib.decDigits n.toNat with
  | nil => exact absurd hl h3
  | cons c r =>
    rw [hl] at h1 hv
    rw [List.all_cons, Bool.and_eq_true] at h1
    have hd := h1.1
    unfold isD at hd
    simp only [Bool.and_eq_true, decide_eq_true_eq] at hd
    have n1 : ¬ (c == 45) = true := fun e => by have e : c = 45 := by simpa using e
                                                subst e; exact absurd hd.1 (by decide)
    have n2 : ¬ (c == 43) = true := fun e => by have e : c = 43 := by simpa using e
                                                subst e; exact absurd hd.1 (by decide)
    have e : Lib.atoi (c :: r) = if (c == 45) = true then (Lib.decNat r).map fun (m : Nat) => -(m : Int) else if (c == 43) = true then (Lib.decNat r).map fun (m : Nat) => (m : Int) else (Lib.decNat (c :: r)).map fun (m : Nat) => (m : Int) := rfl
    rw [e, if_neg n1, if_neg n2, hv]
    show some ((n.toNat : Nat) : Int) = some n
    congr 1; omega
theorem itoa_short {n : Int} (h0 : -1000 <= n) (h1 : n <= 9007199254740992) : (Lib.itoa n).length <= 17 := by
 unfold Lib.itoa
 split
 ·have := dec_len (n := n.natAbs) (k := 4) (by omega) (by omega)
  simp only [List.length_cons]; omega
 ·have := dec_len (n := n.toNat) (k := 16) (by omega) (by omega)
  omega
theorem atz_itz {n : Int} (h0 : -1000 <= n) (h1 : n <= 9007199254740992) : atz (itz n) = n := by
 have hs := itoa_short h0 h1
 have e : (itz n).data.toList = Lib.itoa n := rfl
 unfold atz
 rw [e, Lib.atoiAll_short _ (by omega), atoi_itoa]
 rfl
theorem pV_vtxt {v : VV} (h : vvB v = true) : pV (vtxt v) = v := by
 obtain ⟨c, m, g, ⟨⟩⟩ := v
 have h : vRight c m g = true := h
 have hr := vRight_iff.1 h
 have e : (vtxt (c, m, g, ())).data.toList = vText c.toNat m.toNat g.toNat := by
  unfold vtxt
  rw [if_pos h]
  rfl
 unfold pV
 rw [e, vParse_text (by omega) (by omega) (by omega) (by omega)]
 show (((c.toNat : Nat) : Int), ((m.toNat : Nat) : Int), ((g.toNat : Nat) : Int), ()) = (c, m, g, ())
 rw [Int.toNat_of_nonneg hr.1.1, Int.toNat_of_nonneg hr.2.1.1, Int.toNat_of_nonneg hr.2.2.1.1]
theorem has_rs : ∀ a b c : Bool, hasB (rsB [a, b, c]) 99 = a /\ hasB (rsB [a, b, c]) 109 = b /\ hasB (rsB [a, b, c]) 104 = c := by decide
theorem con_back {c : CV} (h : contB c = true) (h3 : c.2.2.2.1.length = 3) : conOf c.1 (vtxt c.2.1) (vtxt c.2.2.1) (rsB c.2.2.2.1) = c := by
 obtain ⟨nm, r, l, rs, ⟨⟩⟩ := c
 obtain ⟨_, h1, h2⟩ := contB_parts h
 have h3 : rs.length = 3 := h3
 obtain ⟨a, b, d, rfl⟩ : ∃ a b d, rs = [a, b, d] := by
  match rs, h3 with
  | [a, b, d], _ => exact ⟨a, b, d, rfl⟩
 unfold conOf
 obtain ⟨q1, q2, q3⟩ := has_rs a b d
 show (nm, pV (vtxt r), pV (vtxt l), [hasB (rsB [a, b, d]) 99, hasB (rsB [a, b, d]) 109, hasB (rsB [a, b, d]) 104], ()) = _
 rw [q1, q2, q3, pV_vtxt h1, pV_vtxt h2]
theorem cons_back : ∀ {l : List CV}, (∀ c ∈ l, contB c = true) -> (∀ c ∈ l, c.2.2.2.1.length = 3) -> consOf (l.flatMap conW) = l
 | [], _, _ => rfl
 | c :: l, h, h3 => by
   show conOf c.1 (vtxt c.2.1) (vtxt c.2.2.1) (rsB c.2.2.2.1) :: consOf (l.flatMap conW) = c :: l
   rw [con_back (h c (by simp)) (h3 c (by simp)), cons_back (fun c hc => h c (by simp [hc])) (fun c hc => h3 c (by simp [hc]))]
theorem chs_back : ∀ {l : List HV}, (∀ c ∈ l, chB c = true) -> chsOf (l.flatMap chW) = l
 | [], _ => rfl
 | c :: l, h => by
   obtain ⟨nm, r, q, ⟨⟩⟩ := c
   obtain ⟨_, h1, h2⟩ := chB_parts (h (nm, r, q, ()) (by simp))
   show (nm, pV (vtxt r), pV (vtxt q), ()) :: chsOf (l.flatMap chW) = (nm, r, q, ()) :: l
   rw [pV_vtxt h1, pV_vtxt h2, chs_back (fun c hc => h c (by simp [hc]))]
theorem idx_word : ∀ k : Nat, k < 10 -> Lib.idxOfS wordsL (wordsL.getD k ByteArray.empty) = (k : Int) := by decide
theorem numB_iff {n : Int} : numB n = true ↔ -1000 <= n /\ n <= 9007199254740992 := by unfold numB; simp
def res3 (e : EV) : Prop := ∀ c ∈ e.2.1.2.2.2.1, c.2.2.2.1.length = 3
theorem raw_back {e : EV} (h : rightB e = true) (h3 : res3 e) : rawE (partsE e) = e := by
 rcases right_kinds h with ⟨p, hp, rfl⟩ | ⟨s, hs, rfl⟩ | ⟨s, hs, h1, l1, l2, h2, rfl⟩ | ⟨k, s, c, n, hk, h1, h2, hn, rfl⟩ | ⟨k, n, hk, hn, rfl⟩ | rfl
 ·obtain ⟨nm, pr, po, l, ⟨⟩⟩ := p
  obtain ⟨p1, p2, p3, p4, p5⟩ := pod_parts hp
  have hlen : 4 < (partsE (0, (nm, pr, po, l, ()), ByteArray.empty, ByteArray.empty, [], 0, ())).length := by
   show 4 < (l.flatMap conW).length + 1 + 1 + 1 + 1
   have : 0 < (l.flatMap conW).length := by
    cases l with
    | nil => exact absurd p4.1 (by show ¬ 1 <= 0; decide)
    | cons c l => show 0 < (conW c ++ _).length; simp [conW]
   omega
  show rawK _ (Lib.idxOfS wordsL (wordsL.getD 0 ByteArray.empty)) = _
  rw [idx_word 0 (by decide)]
  unfold rawK
  rw [if_pos ⟨rfl, hlen⟩]
  show ((0 : Int), (nm, atz (itz pr), atz (itz po), consOf (l.flatMap conW), ()), ByteArray.empty, ByteArray.empty, [], (0 : Int), ()) = _
  have p2 : -1000 <= pr /\ pr <= 1000 := p2
  have p3 : 0 <= po /\ po <= 2 := p3
  rw [atz_itz p2.1 (by omega), atz_itz (by omega) (by omega), cons_back p5 h3]
 ·show rawK _ (Lib.idxOfS wordsL (wordsL.getD 1 ByteArray.empty)) = _
  rw [idx_word 1 (by decide)]
  rfl
 ·show rawK _ (Lib.idxOfS wordsL (wordsL.getD 2 ByteArray.empty)) = _
  rw [idx_word 2 (by decide)]
  unfold rawK
  rw [if_neg (fun h => absurd h.1 (by decide)), if_neg (fun h => absurd h.1 (by decide)), if_pos ⟨rfl, by show 1 < (hs.flatMap chW).length + 1 + 1; omega⟩]
  show ((2 : Int), p0, s, ByteArray.empty, chsOf (hs.flatMap chW), (0 : Int), ()) = _
  rw [chs_back h2]
 ·obtain ⟨n1, n2⟩ := numB_iff.1 hn
  rcases hk with rfl | rfl
  ·show rawK _ (Lib.idxOfS wordsL (wordsL.getD 4 ByteArray.empty)) = _
   rw [idx_word 4 (by decide)]
   show ((4 : Int), p0, s, c, [], atz (itz n), ()) = _
   rw [atz_itz n1 n2]
  ·show rawK _ (Lib.idxOfS wordsL (wordsL.getD 5 ByteArray.empty)) = _
   rw [idx_word 5 (by decide)]
   show ((5 : Int), p0, s, c, [], atz (itz n), ()) = _
   rw [atz_itz n1 n2]
 ·obtain ⟨n1, n2⟩ := numB_iff.1 hn
  rcases hk with rfl | rfl | rfl | rfl
  ·show rawK _ (Lib.idxOfS wordsL (wordsL.getD 3 ByteArray.empty)) = _
   rw [idx_word 3 (by decide)]
   show ((3 : Int), p0, ByteArray.empty, ByteArray.empty, [], atz (itz n), ()) = _
   rw [atz_itz n1 n2]
  ·show rawK _ (Lib.idxOfS wordsL (wordsL.getD 6 ByteArray.empty)) = _
   rw [idx_word 6 (by decide)]
   show ((6 : Int), p0, ByteArray.empty, ByteArray.empty, [], atz (itz n), ()) = _
   rw [atz_itz n1 n2]
  ·show rawK _ (Lib.idxOfS wordsL (wordsL.getD 7 ByteArray.empty)) = _
   rw [idx_word 7 (by decide)]
   show ((7 : Int), p0, ByteArray.empty, ByteArray.empty, [], atz (itz n), ()) = _
   rw [atz_itz n1 n2]
  ·show rawK _ (Lib.idxOfS wordsL (wordsL.getD 8 ByteArray.empty)) = _
   rw [idx_word 8 (by decide)]
   show ((8 : Int), p0, ByteArray.empty, ByteArray.empty, [], atz (itz n), ()) = _
   rw [atz_itz n1 n2]
 ·show rawK _ (Lib.idxOfS wordsL (wordsL.getD 9 ByteArray.empty)) = _
  rw [idx_word 9 (by decide)]
  rfl
theorem parse_text {e : EV} (h : rightB e = true) (h3 : res3 e) : parseE (textE e) = (e, true) := by
 have ht : textE e = joinB (partsE e) ⟨#[32]⟩ := if_pos h
 have hs : spB 32 (textE e) = partsE e := by
  rw [ht]
  exact spB_join fun x hx => gd_sp (parts_gd h x hx)
 unfold parseE
 rw [hs, raw_back h h3, if_pos ⟨h, rfl⟩]
theorem err_of {M : Mem} {w : World} {g} {nm : String} {k : Nat} (hn : nm = "strconv.ErrSyntax" \/ nm = "strconv.ErrRange") (hk : Tryz.prog.globalNamed nm = some k) (hG : GOK G0 M) (hI : Inv M noNames g w) : ∃ tp p, w.cell? ⟨k, 0, none⟩ = some (.iface tp p) := by
 obtain ⟨tp, p, t, fr, e⟩ := hG.2.2.2 nm hn k hk
 refine ⟨tp, p, ?_⟩
 have := (hI.stat _ _ e).1
 simp [World.cell?, this]
theorem atoi_ok (s : ByteArray) (hs : s.size < 2147483648) : PF 67 (.cons (.str fun _ => s) .nil) (.tuple (.cons (.int .i64 fun _ => atz s) (.cons .undef .nil))) := by
 refine PFun.of_below qf67.callable fun M w vs hG hI hr => ?_
 rcases hr with ⟨h, _⟩ | ⟨_, v, ws, rfl, hv, hn⟩
 ·cases h
 obtain ⟨_, rfl⟩ := hn
 obtain ⟨_, hv⟩ := hv
 obtain rfl : v = .string s := by simpa using hv
 obtain ⟨t1, p1, e1⟩ := err_of (.inl rfl) (show Tryz.prog.globalNamed "strconv.ErrSyntax" = some 1 by kernel_rfl) hG hI
 obtain ⟨t2, p2, e2⟩ := err_of (.inr rfl) (show Tryz.prog.globalNamed "strconv.ErrRange" = some 2 by kernel_rfl) hG hI
 have leaf : ∀ (n : Int) (x : Value), n = atz s -> rel M (.tuple (.cons (.int .i64 fun _ => atz s) (.cons .undef .nil))) noNames .val [.tuple #[.int .i64 n, x]] := by
  rintro n x rfl
  exact ⟨rfl, [.int .i64 (atz s), x], rfl, .inr ⟨rfl, _, _, rfl, ⟨by simp, rfl⟩, .inr ⟨rfl, _, _, rfl, ⟨rfl, _, rfl⟩, by simp, rfl⟩⟩⟩
 have h3 : ∀ x : Lib.NumEnd Int, (∃ n, x = .ok n) \/ x = Lib.NumEnd.syntax \/ x = .range := fun x => by cases x <;> simp
 rcases h3 (Lib.atoiAll s.data.toList) with ⟨n, h⟩ | h | h
 ·refine (Tryz.strconv_Atoi_ok s (by omega) n h w).mono ?_
  rintro e w' ⟨rfl, hw⟩
  refine ⟨_, rfl, ?_, leaf _ _ (by unfold atz; rw [h])⟩
  rcases hw with rfl | ⟨t, rfl⟩
  ·exact RowKit.Below.refl _ _
  ·exact Lib.bytesWorld_below w _ t
 ·refine (Tryz.strconv_Atoi_syntax s (by omega) h _ w e1 (.inr ⟨_, _, rfl⟩)).mono ?_
  rintro e w' ⟨N, rfl, _, _, hw⟩
  exact ⟨_, rfl, hw, leaf _ _ (by unfold atz; rw [h])⟩
 ·refine (Tryz.strconv_Atoi_range s (by omega) h _ w e2 (.inr ⟨_, _, rfl⟩)).mono ?_
  rintro e w' ⟨N, rfl, _, _, hw⟩
  exact ⟨_, rfl, hw, leaf _ _ (by unfold atz; rw [h])⟩
noncomputable def Fr0 : Table := addS 67 (.cons .str .nil) (fun s => (.tuple (.cons (.int .i64 fun _ => atz (s ())) (.cons .undef .nil)), [fun _ => (s ()).size < 2147483648])) Fq9
theorem Fr0_ok : TableOK Tryz.prog G0 Fr0 := addS_ok qf67.callable (fun s h => atoi_ok (s ()) h.1) Fq9_ok
theorem read_ok (s : ByteArray) (hs : s.size < 2147483648) : PF 36 (.cons (.str fun _ => s) .nil) (.int .i64 fun _ => atz s) := by
 refine tX qf36 Fr0_ok (.any) rfl ?_
 conv => arg 5; cbv
 exact ⟨⟨hs, trivial⟩, rfl, iR⟩
theorem words_ok : PF 35 .nil (Sh.mkL 1 .str fun _ => wordsL) := by
 refine tX qf35 Fr0_ok (.any) rfl ?_
 conv => arg 5; cbv
 refine ⟨rfl, .inl rfl, rfl, rfl, fun j h0 h1 => ?_⟩
 have h1 : j < 10 := h1
 obtain rfl | rfl | rfl | rfl | rfl | rfl | rfl | rfl | rfl | rfl : j = 0 \/ j = 1 \/ j = 2 \/ j = 3 \/ j = 4 \/ j = 5 \/ j = 6 \/ j = 7 \/ j = 8 \/ j = 9 := by omega
 all_goals exact iR
noncomputable def Fr1 : Table := addS 36 (.cons .str .nil) (fun s => (.int .i64 fun _ => atz (s ()), [fun _ => (s ()).size < 2147483648])) Fr0
theorem Fr1_ok : TableOK Tryz.prog G0 Fr1 := addS_ok qf36.callable (fun s h => read_ok (s ()) h.1) Fr0_ok
end Go.Proofs.YtpbjcabecalpaaaGreatDoor
namespace Go.Abs
theorem sel_form : ∀ (ys : List ByteArray) (i : Nat) (j : Unit -> Int), ys ≠ [] -> ∃ s : Unit -> ByteArray, sel i (ys.map fun y => PV.str fun _ => y) j = .str s /\ ∀ k : Nat, k < ys.length -> j () = ((i + k : Nat) : Int) -> s () = ys.getD k ByteArray.empty
 | [], i, j, h => absurd rfl h
 | [y], i, j, _ => ⟨fun _ => y, rfl, fun k hk _ => by
   have : k = 0 := by have : k < 1 := hk; omega
   subst this; rfl⟩
 | y :: z :: r, i, j, _ => by
   obtain ⟨s, h1, h2⟩ := sel_form (z :: r) (i + 1) j (by simp)
   refine ⟨fun _ => bif decide (j () = (i : Int)) then y else s (), ?_, fun k hk hj => ?_⟩
   · show PV.mrx (fun _ => decide (j () = (i : Int))) (.str fun _ => y) (sel (i + 1) ((z :: r).map fun y => PV.str fun _ => y) j) = _
     rw [h1]; rfl
   · cases k with
     | zero => show (bif decide (j () = (i : Int)) then y else s ()) = y; rw [decide_eq_true (by omega)]; rfl
     | succ k =>
       show (bif decide (j () = (i : Int)) then y else s ()) = (z :: r).getD k ByteArray.empty
       rw [decide_eq_false (by omega), cond_false]
       exact h2 k (by simpa using hk) (by omega)
theorem getD_app {xs ys : List ByteArray} (i : Nat) (hi : i < xs.length + ys.length) : (bif decide ((i : Int) < (xs.length : Int)) then xs.getD i ByteArray.empty else ys.getD (i - xs.length) ByteArray.empty) = (xs ++ ys).getD i ByteArray.empty := by
 rw [List.getD_eq_getElem?_getD, List.getD_eq_getElem?_getD, List.getD_eq_getElem?_getD]
 by_cases h : i < xs.length
 ·rw [List.getElem?_append_left h, decide_eq_true (by omega)]; rfl
 ·rw [List.getElem?_append_right (by omega), decide_eq_false (by omega)]; rfl
theorem app_strs (tok : Option Nat) (xs ys : List ByteArray) (hy : ys ≠ []) : impP (.slice tok 1 (fun _ => (xs.length : Int) + (ys.length : Int)) fun j => PV.mrg (fun _ => decide (j () < (xs.length : Int))) (.str fun _ => xs.getD (j ()).toNat ByteArray.empty) (sel 0 (ys.map fun y => PV.str fun _ => y) fun _ => j () - (xs.length : Int)))
  (.slice tok 1 (fun _ => ((xs ++ ys).length : Int)) fun j => .str fun _ => (xs ++ ys).getD (j ()).toNat ByteArray.empty) := by
 refine ⟨.inr rfl, rfl, by show (xs.length : Int) + (ys.length : Int) = ((xs ++ ys).length : Int); rw [List.length_append]; omega, fun j h0 h1 => ?_⟩
 obtain ⟨i, rfl⟩ : ∃ i : Nat, j = i := ⟨j.toNat, by omega⟩
 have h1 : (i : Int) < (xs.length : Int) + (ys.length : Int) := h1
 obtain ⟨s, e, hs⟩ := sel_form ys 0 (fun _ => (i : Int) - (xs.length : Int)) hy
 show impP (PV.mrg (fun _ => decide ((i : Int) < (xs.length : Int))) (.str fun _ => xs.getD ((i : Int)).toNat ByteArray.empty) (sel 0 (ys.map fun y => PV.str fun _ => y) fun _ => (i : Int) - (xs.length : Int))) (.str fun _ => (xs ++ ys).getD ((i : Int)).toNat ByteArray.empty)
 rw [e]
 show (bif decide ((i : Int) < (xs.length : Int)) then xs.getD ((i : Int)).toNat ByteArray.empty else s ()) = (xs ++ ys).getD ((i : Int)).toNat ByteArray.empty
 rw [Int.toNat_natCast, <- getD_app i (by omega)]
 by_cases h : i < xs.length
 ·rw [decide_eq_true (by omega)]; rfl
 ·rw [decide_eq_false (by omega)]
  exact hs (i - xs.length) (by omega) (by show (i : Int) - (xs.length : Int) = ((0 + (i - xs.length) : Nat) : Int); omega)
theorem app_sels (tok : Option Nat) (xs ys : List ByteArray) (hx : xs ≠ []) (hy : ys ≠ []) : impP (.slice tok 1 (fun _ => (xs.length : Int) + (ys.length : Int)) fun j => PV.mrg (fun _ => decide (j () < (xs.length : Int))) (sel 0 (xs.map fun y => PV.str fun _ => y) j) (sel 0 (ys.map fun y => PV.str fun _ => y) fun _ => j () - (xs.length : Int)))
  (.slice tok 1 (fun _ => ((xs ++ ys).length : Int)) fun j => .str fun _ => (xs ++ ys).getD (j ()).toNat ByteArray.empty) := by
 refine ⟨.inr rfl, rfl, by show (xs.length : Int) + (ys.length : Int) = ((xs ++ ys).length : Int); rw [List.length_append]; omega, fun j h0 h1 => ?_⟩
 obtain ⟨i, rfl⟩ : ∃ i : Nat, j = i := ⟨j.toNat, by omega⟩
 have h1 : (i : Int) < (xs.length : Int) + (ys.length : Int) := h1
 obtain ⟨s, e, hs⟩ := sel_form ys 0 (fun _ => (i : Int) - (xs.length : Int)) hy
 obtain ⟨t, e2, ht⟩ := sel_form xs 0 (fun _ => (i : Int)) hx
 show impP (PV.mrg (fun _ => decide ((i : Int) < (xs.length : Int))) (sel 0 (xs.map fun y => PV.str fun _ => y) fun _ => (i : Int)) (sel 0 (ys.map fun y => PV.str fun _ => y) fun _ => (i : Int) - (xs.length : Int))) (.str fun _ => (xs ++ ys).getD ((i : Int)).toNat ByteArray.empty)
 rw [e, e2]
 show (bif decide ((i : Int) < (xs.length : Int)) then t () else s ()) = (xs ++ ys).getD ((i : Int)).toNat ByteArray.empty
 rw [Int.toNat_natCast, <- getD_app i (by omega)]
 by_cases h : i < xs.length
 ·rw [decide_eq_true (by omega)]
  exact ht i h (by show (i : Int) = ((0 + i : Nat) : Int); omega)
 ·rw [decide_eq_false (by omega)]
  exact hs (i - xs.length) (by omega) (by show (i : Int) - (xs.length : Int) = ((0 + (i - xs.length) : Nat) : Int); omega)
theorem all_sels (tok : Option Nat) (xs : List ByteArray) (hx : xs ≠ []) : impP (.slice tok 1 (fun _ => (xs.length : Int)) (sel 0 (xs.map fun y => PV.str fun _ => y)))
  (.slice tok 1 (fun _ => (xs.length : Int)) fun j => .str fun _ => xs.getD (j ()).toNat ByteArray.empty) := by
 refine ⟨.inr rfl, rfl, rfl, fun j h0 h1 => ?_⟩
 obtain ⟨i, rfl⟩ : ∃ i : Nat, j = i := ⟨j.toNat, by omega⟩
 have h1 : (i : Int) < (xs.length : Int) := h1
 obtain ⟨t, e2, ht⟩ := sel_form xs 0 (fun _ => (i : Int)) hx
 rw [e2]
 show t () = xs.getD ((i : Int)).toNat ByteArray.empty
 rw [Int.toNat_natCast]
 exact ht i (by omega) (by show (i : Int) = ((0 + i : Nat) : Int); omega)
end Go.Abs
namespace Go.Proofs.YtpbjcabecalpaaaGreatDoor
open Go Go.Abs Go.Proofs
noncomputable def Fr2 : Table := addS 35 .nil (Sh.mkL 1 .str fun _ => wordsL, []) Fr1
theorem Fr2_ok : TableOK Tryz.prog G0 Fr2 := addS_ok qf35.callable (fun _ => words_ok) Fr1_ok
theorem wk {k : Int} (h0 : 0 <= k) (h1 : k <= 9) : 0 <= k /\ k < (wordsL.length : Int) := ⟨h0, by show k < 10; omega⟩
theorem i0 : (-9223372036854775808 : Int) <= 0 /\ (0 : Int) <= 9223372036854775807 := by decide
theorem parts1_ok (s : ByteArray) : PF 32 (.cons (shE.mk fun _ => ((1, p0, s, ByteArray.empty, [], 0, ()) : EV)) .nil) (Sh.mkL 1 .str fun _ => partsE (1, p0, s, ByteArray.empty, [], 0, ())) := by
 refine qf32.treeP preX_ok (mkX_ok Fr2_ok emptyS_ok) (callB_ok emptyB_ok) false 60 ((.no (.yes .any))) rfl ?_
 conv => arg 5; cbv
 refine ⟨⟨wk (k := 1) (by decide) (by decide), (by show drawOK _ _ = true; decide +kernel), i0, trivial⟩, ⟨rfl, trivial⟩, ⟨rfl, trivial⟩, ⟨by decide, trivial⟩, rfl, app_sels none [wordsL.getD 1 ByteArray.empty] [s] (by simp) (by simp)⟩
theorem parts9_ok : PF 32 (.cons (shE.mk fun _ => ((9, p0, ByteArray.empty, ByteArray.empty, [], 0, ()) : EV)) .nil) (Sh.mkL 1 .str fun _ => partsE (9, p0, ByteArray.empty, ByteArray.empty, [], 0, ())) := by
 refine qf32.treeP preX_ok (mkX_ok Fr2_ok emptyS_ok) (callB_ok emptyB_ok) false 60 ((.no (.no (.no (.no (.no (.no (.no (.no (.no .any)))))))))) rfl ?_
 conv => arg 5; cbv
 exact ⟨⟨wk (k := 9) (by decide) (by decide), (by show drawOK _ _ = true; decide +kernel), i0, trivial⟩, ⟨rfl, trivial⟩, ⟨rfl, trivial⟩, ⟨rfl, trivial⟩, ⟨rfl, trivial⟩, ⟨rfl, trivial⟩, ⟨rfl, trivial⟩, ⟨rfl, trivial⟩, ⟨rfl, trivial⟩, ⟨rfl, trivial⟩, rfl, all_sels none [wordsL.getD 9 ByteArray.empty] (by simp)⟩
theorem parts3_ok (n : Int) (hn : -9223372036854775808 <= n /\ n <= 9223372036854775807) : PF 32 (.cons (shE.mk fun _ => ((3, p0, ByteArray.empty, ByteArray.empty, [], n, ()) : EV)) .nil) (Sh.mkL 1 .str fun _ => partsE (3, p0, ByteArray.empty, ByteArray.empty, [], n, ())) := by
 refine qf32.treeP preX_ok (mkX_ok Fr2_ok emptyS_ok) (callB_ok emptyB_ok) false 60 ((.no (.no (.no (.no (.no (.yes .any))))))) rfl ?_
 conv => arg 5; cbv
 exact ⟨⟨wk (k := 3) (by decide) (by decide), (by show drawOK _ _ = true; decide +kernel), hn, trivial⟩, ⟨rfl, trivial⟩, ⟨rfl, trivial⟩, ⟨rfl, trivial⟩, ⟨rfl, trivial⟩, ⟨rfl, trivial⟩, ⟨rfl, trivial⟩, ⟨by decide, trivial⟩, rfl, app_sels none [wordsL.getD 3 ByteArray.empty] [itz n] (by simp) (by simp)⟩
theorem parts6_ok (n : Int) (hn : -9223372036854775808 <= n /\ n <= 9223372036854775807) : PF 32 (.cons (shE.mk fun _ => ((6, p0, ByteArray.empty, ByteArray.empty, [], n, ()) : EV)) .nil) (Sh.mkL 1 .str fun _ => partsE (6, p0, ByteArray.empty, ByteArray.empty, [], n, ())) := by
 refine qf32.treeP preX_ok (mkX_ok Fr2_ok emptyS_ok) (callB_ok emptyB_ok) false 60 ((.no (.no (.no (.no (.no (.no (.yes .any)))))))) rfl ?_
 conv => arg 5; cbv
 exact ⟨⟨wk (k := 6) (by decide) (by decide), (by show drawOK _ _ = true; decide +kernel), hn, trivial⟩, ⟨rfl, trivial⟩, ⟨rfl, trivial⟩, ⟨rfl, trivial⟩, ⟨rfl, trivial⟩, ⟨rfl, trivial⟩, ⟨rfl, trivial⟩, ⟨rfl, trivial⟩, ⟨by decide, trivial⟩, rfl, app_sels none [wordsL.getD 6 ByteArray.empty] [itz n] (by simp) (by simp)⟩
theorem parts7_ok (n : Int) (hn : -9223372036854775808 <= n /\ n <= 9223372036854775807) : PF 32 (.cons (shE.mk fun _ => ((7, p0, ByteArray.empty, ByteArray.empty, [], n, ()) : EV)) .nil) (Sh.mkL 1 .str fun _ => partsE (7, p0, ByteArray.empty, ByteArray.empty, [], n, ())) := by
 refine qf32.treeP preX_ok (mkX_ok Fr2_ok emptyS_ok) (callB_ok emptyB_ok) false 60 ((.no (.no (.no (.no (.no (.no (.no (.yes .any))))))))) rfl ?_
 conv => arg 5; cbv
 exact ⟨⟨wk (k := 7) (by decide) (by decide), (by show drawOK _ _ = true; decide +kernel), hn, trivial⟩, ⟨rfl, trivial⟩, ⟨rfl, trivial⟩, ⟨rfl, trivial⟩, ⟨rfl, trivial⟩, ⟨rfl, trivial⟩, ⟨rfl, trivial⟩, ⟨rfl, trivial⟩, ⟨rfl, trivial⟩, ⟨by decide, trivial⟩, rfl, app_sels none [wordsL.getD 7 ByteArray.empty] [itz n] (by simp) (by simp)⟩
theorem parts8_ok (n : Int) (hn : -9223372036854775808 <= n /\ n <= 9223372036854775807) : PF 32 (.cons (shE.mk fun _ => ((8, p0, ByteArray.empty, ByteArray.empty, [], n, ()) : EV)) .nil) (Sh.mkL 1 .str fun _ => partsE (8, p0, ByteArray.empty, ByteArray.empty, [], n, ())) := by
 refine qf32.treeP preX_ok (mkX_ok Fr2_ok emptyS_ok) (callB_ok emptyB_ok) false 60 ((.no (.no (.no (.no (.no (.no (.no (.no (.yes .any)))))))))) rfl ?_
 conv => arg 5; cbv
 exact ⟨⟨wk (k := 8) (by decide) (by decide), (by show drawOK _ _ = true; decide +kernel), hn, trivial⟩, ⟨rfl, trivial⟩, ⟨rfl, trivial⟩, ⟨rfl, trivial⟩, ⟨rfl, trivial⟩, ⟨rfl, trivial⟩, ⟨rfl, trivial⟩, ⟨rfl, trivial⟩, ⟨rfl, trivial⟩, ⟨rfl, trivial⟩, ⟨by decide, trivial⟩, rfl, app_sels none [wordsL.getD 8 ByteArray.empty] [itz n] (by simp) (by simp)⟩
theorem parts4_ok (s c : ByteArray) (n : Int) (hn : -9223372036854775808 <= n /\ n <= 9223372036854775807) : PF 32 (.cons (shE.mk fun _ => ((4, p0, s, c, [], n, ()) : EV)) .nil) (Sh.mkL 1 .str fun _ => partsE (4, p0, s, c, [], n, ())) := by
 refine qf32.treeP preX_ok (mkX_ok Fr2_ok emptyS_ok) (callB_ok emptyB_ok) false 60 ((.no (.no (.no (.yes .any))))) rfl ?_
 conv => arg 5; cbv
 exact ⟨⟨wk (k := 4) (by decide) (by decide), (by show drawOK _ _ = true; decide +kernel), hn, trivial⟩, ⟨rfl, trivial⟩, ⟨rfl, trivial⟩, ⟨rfl, trivial⟩, ⟨rfl, trivial⟩, ⟨by decide, trivial⟩, rfl, app_sels none [wordsL.getD 4 ByteArray.empty] [s, c, itz n] (by simp) (by simp)⟩
theorem parts5_ok (s c : ByteArray) (n : Int) (hn : -9223372036854775808 <= n /\ n <= 9223372036854775807) : PF 32 (.cons (shE.mk fun _ => ((5, p0, s, c, [], n, ()) : EV)) .nil) (Sh.mkL 1 .str fun _ => partsE (5, p0, s, c, [], n, ())) := by
 refine qf32.treeP preX_ok (mkX_ok Fr2_ok emptyS_ok) (callB_ok emptyB_ok) false 60 ((.no (.no (.no (.no (.yes .any)))))) rfl ?_
 conv => arg 5; cbv
 exact ⟨⟨wk (k := 5) (by decide) (by decide), (by show drawOK _ _ = true; decide +kernel), hn, trivial⟩, ⟨rfl, trivial⟩, ⟨rfl, trivial⟩, ⟨rfl, trivial⟩, ⟨rfl, trivial⟩, ⟨rfl, trivial⟩, ⟨by decide, trivial⟩, rfl, app_sels none [wordsL.getD 5 ByteArray.empty] [s, c, itz n] (by simp) (by simp)⟩
structure PaX where
 i : Nat
 ws : List ByteArray
def qaA (hs : List HV) (x : PaX) : Env := [(76, .int .i64 fun _ => (x.i : Int)), (75, .int .i64 fun _ => (hs.length : Int)), (74, Sh.mkL 7 shH fun _ => hs), (3, .slice (some 0) 1 (fun _ => (x.ws.length : Int)) fun j => .str fun _ => (x.ws : List ByteArray).getD (j ()).toNat ByteArray.empty)]
def qaS : Store := [(0, .own 1 9)]
theorem drop_at {α : Type} {l : List α} {i : Nat} (d : α) (hi : i < l.length) : l.drop i = l.getD i d :: l.drop (i + 1) := by
 rw [<- List.getElem_cons_drop hi, List.getD_eq_getElem?_getD, List.getElem?_eq_getElem hi]; rfl
theorem parts2_ok (s : ByteArray) (hs : List HV) (hl : hs.length <= 1000) : PF 32 (.cons (shE.mk fun _ => ((2, p0, s, ByteArray.empty, hs, 0, ()) : EV)) .nil) (Sh.mkL 1 .str fun _ => partsE (2, p0, s, ByteArray.empty, hs, 0, ())) := by
 refine qf32.treeP preX_ok (mkX_ok Fr2_ok emptyS_ok) (callB_ok emptyB_ok) false 60 ((.no (.no (.yes .any)))) rfl ?_
 conv => arg 5; cbv
 refine ⟨⟨wk (k := 2) (by decide) (by decide), (by show drawOK _ _ = true; decide +kernel), i0, trivial⟩, ⟨rfl, trivial⟩, ⟨rfl, trivial⟩, ⟨rfl, trivial⟩, ⟨by decide, trivial⟩, ?_⟩
 refine run_inv (ι := PaX) (fun x => hs.length - x.i) (fun x => x.i <= hs.length /\ x.ws ++ (hs.drop x.i).flatMap chW = partsE (2, p0, s, ByteArray.empty, hs, 0, ()) /\ x.ws.length = 2 + 3 * x.i) (qaA hs) (fun _ => qaS) 1 ⟨0, [wordsL.getD 2 ByteArray.empty, s]⟩ (fun i => bif beqN i 0 then 3 else i) (by rfl) (by rfl) ⟨Nat.zero_le _, rfl, rfl⟩ ?_ ⟨iR, iR, iR, app_sels (some 3) [wordsL.getD 2 ByteArray.empty] [s] (by simp) (by simp), trivial⟩ ⟨⟨rfl, rfl⟩, trivial⟩
 rintro ⟨i, ws⟩ hi ih
 dsimp only at hi
 refine exploreP_ok (by first | exact ok _ | exact (ok _).at _ | exact (ok _).round _) preX_ok (mkX_ok Fr2_ok emptyS_ok) (callB_ok emptyB_ok) (u := false) 60 (.any) _ rfl ?_
 conv => arg 5; cbv
 have hi1 := hi.1
 refine ⟨fun h => ?_, fun h => ?_⟩
 ·have h : (i : Int) < (hs.length : Int) := of_decide_eq_true h
  have hi2 : i < hs.length := by omega
  have hw : IntKind.i64.wrap ((i : Int) + 1) = ((i + 1 : Nat) : Int) := by rw [IntWalk.i64_in _ ⟨by omega, by omega⟩]; omega
  have h3 := hi.2.2
  refine ⟨⟨⟨Int.natCast_nonneg i, h⟩, ?_, (by show drawOK _ _ = true; decide +kernel), trivial⟩, ?_⟩
  ·show (0 : Int) < 3 /\ ((ws.length : Int) + 3) * 16 <= 140737488355328
   omega
  have e := drop_at h0 hi2
  refine ih ⟨i + 1, ws ++ chW (hs.getD i h0)⟩ (fun i => bif beqN i 0 then 3 else i) ⟨by show i + 1 <= hs.length; omega, ?_, ?_⟩ (by show hs.length - (i + 1) < hs.length - i; omega) (by rfl) ⟨⟨rfl, hw⟩, iR, iR, app_strs (some 3) ws (chW (hs.getD i h0)) (by simp [chW]), trivial⟩ ⟨⟨rfl, rfl⟩, trivial⟩
  ·have := hi.2.1
   rw [e, List.flatMap_cons, <- List.append_assoc] at this
   exact this
  ·show (ws ++ chW (hs.getD i h0)).length = 2 + 3 * (i + 1)
   rw [List.length_append, h3]; simp [chW]; omega
 ·have h : ¬ (i : Int) < (hs.length : Int) := of_decide_eq_false h
  have e : ws = partsE (2, p0, s, ByteArray.empty, hs, 0, ()) := by
   have := hi.2.1
   rw [List.drop_eq_nil_of_le (by omega)] at this
   simpa using this
  rw [<- e]
  exact ⟨rfl, .inl rfl, rfl, rfl, fun j _ _ => iR⟩
def qcA (l : List CV) (x : PaX) : Env := [(40, .int .i64 fun _ => (x.i : Int)), (39, .int .i64 fun _ => (l.length : Int)), (38, Sh.mkL 10 shC fun _ => l), (3, .slice (some 0) 1 (fun _ => (x.ws.length : Int)) fun j => .str fun _ => (x.ws : List ByteArray).getD (j ()).toNat ByteArray.empty)]
theorem parts0_ok (p : PoV) (hl : p.2.2.2.1.length <= 1000) (h1 : -9223372036854775808 <= p.2.1 /\ p.2.1 <= 9223372036854775807) (h2 : -9223372036854775808 <= p.2.2.1 /\ p.2.2.1 <= 9223372036854775807) : PF 32 (.cons (shE.mk fun _ => ((0, p, ByteArray.empty, ByteArray.empty, [], 0, ()) : EV)) .nil) (Sh.mkL 1 .str fun _ => partsE (0, p, ByteArray.empty, ByteArray.empty, [], 0, ())) := by
 obtain ⟨nm, pr, po, l, ⟨⟩⟩ := p
 have hl : l.length <= 1000 := hl
 refine qf32.treeP preX_ok (mkX_ok Fr2_ok emptyS_ok) (callB_ok emptyB_ok) false 60 ((.yes .any)) rfl ?_
 conv => arg 5; cbv
 refine ⟨⟨wk (k := 0) (by decide) (by decide), (by show drawOK _ _ = true; decide +kernel), i0, trivial⟩, ⟨rfl, trivial⟩, ⟨h1, h2, by decide, (by show drawOK _ _ = true; decide +kernel), trivial⟩, ?_⟩
 refine run_inv (ι := PaX) (fun x => l.length - x.i) (fun x => x.i <= l.length /\ x.ws ++ (l.drop x.i).flatMap conW = partsE (0, (nm, pr, po, l, ()), ByteArray.empty, ByteArray.empty, [], 0, ()) /\ x.ws.length = 4 + 4 * x.i) (qcA l) (fun _ => qaS) 1 ⟨0, [wordsL.getD 0 ByteArray.empty, nm, itz pr, itz po]⟩ (fun i => bif beqN i 0 then 3 else i) (by rfl) (by rfl) ⟨Nat.zero_le _, rfl, rfl⟩ ?_ ⟨iR, iR, iR, app_sels (some 3) [wordsL.getD 0 ByteArray.empty] [nm, itz pr, itz po] (by simp) (by simp), trivial⟩ ⟨⟨rfl, rfl⟩, trivial⟩
 rintro ⟨i, ws⟩ hi ih
 dsimp only at hi
 refine exploreP_ok (by first | exact ok _ | exact (ok _).at _ | exact (ok _).round _) preX_ok (mkX_ok Fr2_ok emptyS_ok) (callB_ok emptyB_ok) (u := false) 60 (.any) _ rfl ?_
 conv => arg 5; cbv
 have hi1 := hi.1
 refine ⟨fun h => ?_, fun h => ?_⟩
 ·have h : (i : Int) < (l.length : Int) := of_decide_eq_true h
  have hi2 : i < l.length := by omega
  have hw : IntKind.i64.wrap ((i : Int) + 1) = ((i + 1 : Nat) : Int) := by rw [IntWalk.i64_in _ ⟨by omega, by omega⟩]; omega
  have h3 := hi.2.2
  refine ⟨⟨⟨Int.natCast_nonneg i, h⟩, ?_, (by show drawOK _ _ = true; decide +kernel), trivial⟩, ?_⟩
  ·show (0 : Int) < 4 /\ ((ws.length : Int) + 4) * 16 <= 140737488355328
   omega
  have e := drop_at c0 hi2
  refine ih ⟨i + 1, ws ++ conW (l.getD i c0)⟩ (fun i => bif beqN i 0 then 3 else i) ⟨by show i + 1 <= l.length; omega, ?_, ?_⟩ (by show l.length - (i + 1) < l.length - i; omega) (by rfl) ⟨⟨rfl, hw⟩, iR, iR, app_strs (some 3) ws (conW (l.getD i c0)) (by simp [conW]), trivial⟩ ⟨⟨rfl, rfl⟩, trivial⟩
  ·have := hi.2.1
   rw [e, List.flatMap_cons, <- List.append_assoc] at this
   exact this
  ·show (ws ++ conW (l.getD i c0)).length = 4 + 4 * (i + 1)
   rw [List.length_append, h3]; simp [conW]; omega
 ·have h : ¬ (i : Int) < (l.length : Int) := of_decide_eq_false h
  have e : ws = partsE (0, (nm, pr, po, l, ()), ByteArray.empty, ByteArray.empty, [], 0, ()) := by
   have := hi.2.1
   rw [List.drop_eq_nil_of_le (by omega)] at this
   simpa using this
  rw [<- e]
  exact ⟨rfl, .inl rfl, rfl, rfl, fun j _ _ => iR⟩
def goL : List ByteArray -> List EV -> List EV × Int × Int
 | [], acc => (acc, 0, 0)
 | [p], acc => if p = ByteArray.empty then (acc, 0, 0) else if 1000 <= acc.length then ([], 1001, 12) else ([], (acc.length : Int) + 1, 10)
 | p :: q :: r, acc => if 1000 <= acc.length then ([], 1001, 12) else if (parseE p).2 = true then goL (q :: r) (acc ++ [(parseE p).1]) else ([], (acc.length : Int) + 1, 11)
def linesE (s : ByteArray) : List EV × Int × Int := goL (spB 10 s) []
def nlB : ByteArray := ⟨#[10]⟩
def scrG : List EV -> ByteArray -> ByteArray
 | [], acc => acc
 | e :: l, acc => if textE e = ByteArray.empty then ByteArray.empty else scrG l (acc ++ (textE e ++ nlB))
def scriptE (l : List EV) : ByteArray := scrG l ByteArray.empty
theorem parse_same {s : ByteArray} (h : (parseE s).2 = true) : textE (parseE s).1 = s /\ rightB (parseE s).1 = true := by
 unfold parseE at *
 split
 ·rename_i k; exact ⟨k.2, k.1⟩
 ·rename_i k; rw [if_neg k] at h; cases h
theorem vtxt_size (v : VV) : (vtxt v).size <= 132 := by
 unfold vtxt
 split
 ·rename_i hr
  have hr := vRight_iff.1 hr
  rw [<- size_toB]
  show (vText v.1.toNat v.2.1.toNat v.2.2.1.toNat).length <= 132
  unfold vText
  split
  ·decide
  ·have hx : ∀ x ∈ (vParts v.1.toNat v.2.1.toNat v.2.2.1.toNat).map toB, x.size <= 43 := by
    intro x hx
    obtain ⟨y, hy, rfl⟩ := List.mem_map.1 hx
    have k1 : ∀ (n t : List UInt8), n.length <= 9 -> t.length <= 30 -> (toB (n ++ 61 :: t)).size <= 43 := fun n t h1 h2 => by
     rw [<- size_toB]; show (n ++ 61 :: t).length <= 43; rw [List.length_append, List.length_cons]; omega
    have a1 : (atext (v.1.toNat * 1000000)).length <= 30 := by
     have := (tx_len _ (w_most (n := v.1) (by omega)).1).1
     rw [<- size_toB] at this; exact this
    have a2 : (btext (v.2.1.toNat * 1000000000)).length <= 30 := by
     have := (tx_len _ (w_most (n := v.2.1) (by omega)).2).2
     rw [<- size_toB] at this; exact this
    have a3 : (btext (v.2.2.1.toNat * 1000000000)).length <= 30 := by
     have := (tx_len _ (w_most (n := v.2.2.1) (by omega)).2).2
     rw [<- size_toB] at this; exact this
    unfold vParts at hy
    rcases List.mem_append.1 hy with hy | hy
    ·split at hy
     ·rw [List.mem_singleton] at hy; subst hy; exact k1 _ _ (by decide) a1
     ·cases hy
    ·rcases List.mem_append.1 hy with hy | hy
     ·split at hy
      ·rw [List.mem_singleton] at hy; subst hy; exact k1 _ _ (by decide) a2
      ·cases hy
     ·split at hy
      ·rw [List.mem_singleton] at hy; subst hy; exact k1 _ _ (by decide) a3
      ·cases hy
   have hj := joinB_size (sep := ⟨#[44]⟩) hx
   have e : (joinB ((vParts v.1.toNat v.2.1.toNat v.2.2.1.toNat).map toB) ⟨#[44]⟩).data.toList = Lib.join (vParts v.1.toNat v.2.1.toNat v.2.2.1.toNat) [44] := by
    unfold joinB
    rw [List.map_map, show ((fun x : ByteArray => x.data.toList) ∘ toB) = id from rfl, List.map_id]
   rw [<- size_toB, e, List.length_map] at hj
   have hp : (vParts v.1.toNat v.2.1.toNat v.2.2.1.toNat).length <= 3 := by
    unfold vParts
    rw [List.length_append, List.length_append]
    split <;> split <;> split <;> simp
   have s4 : (⟨#[44]⟩ : ByteArray).size = 1 := rfl
   rw [s4] at hj
   have := Nat.mul_le_mul_right 44 hp
   omega
 ·decide
theorem itz_size {n : Int} (h0 : -9223372036854775808 <= n) (h1 : n <= 9223372036854775807) : (itz n).size <= 21 := by
 rw [<- size_toB]; exact Lib.itoa_length_le n h0 h1
theorem rsB_size (l : List Bool) : (rsB l).size <= 3 := by
 unfold rsB
 generalize l.getD 0 false = a
 generalize l.getD 1 false = b
 generalize l.getD 2 false = c
 revert a b c; decide
theorem name_size {s : ByteArray} (h : nameB s = true) : s.size <= 16 := (nameB_iff.1 h).2.1
theorem words_size (k : Nat) : (wordsL.getD k ByteArray.empty).size <= 6 := by
 by_cases hk : k < 10
 ·have : ∀ j, j < 10 -> (wordsL.getD j ByteArray.empty).size <= 6 := by decide
  exact this k hk
 ·have e : wordsL.getD k ByteArray.empty = ByteArray.empty := by rw [List.getD_eq_getElem?_getD, List.getElem?_eq_none (by show 10 <= k; omega)]; rfl
  rw [e]; decide
theorem flat_len {α β : Type} {f : α -> List β} {k : Nat} (h : ∀ x, (f x).length = k) : ∀ (l : List α), (l.flatMap f).length = l.length * k
 | [] => by simp
 | x :: l => by rw [List.flatMap_cons, List.length_append, h x, flat_len h l, List.length_cons, Nat.add_mul]; omega
theorem parts_size {e : EV} (h : rightB e = true) : (partsE e).length <= 28 /\ ∀ x ∈ partsE e, x.size <= 132 := by
 have cw : ∀ x : CV, (conW x).length = 4 := fun _ => rfl
 have hw : ∀ x : HV, (chW x).length = 3 := fun _ => rfl
 have kk : ∀ t, (t.length <= 27 /\ ∀ x ∈ t, x.size <= 132) -> ∀ k, (wordsL.getD k ByteArray.empty :: t).length <= 28 /\ ∀ x ∈ wordsL.getD k ByteArray.empty :: t, x.size <= 132 := fun t ht k => ⟨by rw [List.length_cons]; omega, fun x hx => by
  rcases List.mem_cons.1 hx with rfl | hx
  ·exact Nat.le_trans (words_size k) (by decide)
  ·exact ht.2 x hx⟩
 refine kk _ ?_ _
 rcases right_kinds h with ⟨p, hp, rfl⟩ | ⟨s, hs, rfl⟩ | ⟨s, hs, h1, _, l2, h2, rfl⟩ | ⟨k, s, c, n, hk, h1, h2, h3, rfl⟩ | ⟨k, n, hk, h3, rfl⟩ | rfl
 ·obtain ⟨p1, p2, p3, p4, p5⟩ := pod_parts hp
  show (p.1 :: itz p.2.1 :: itz p.2.2.1 :: p.2.2.2.1.flatMap conW).length <= 27 /\ ∀ x ∈ p.1 :: itz p.2.1 :: itz p.2.2.1 :: p.2.2.2.1.flatMap conW, x.size <= 132
  refine ⟨?_, fun x hx => ?_⟩
  ·rw [List.length_cons, List.length_cons, List.length_cons, flat_len cw]; omega
  ·simp only [List.mem_cons, List.mem_flatMap] at hx
   rcases hx with rfl | rfl | rfl | ⟨c, hc, hx⟩
   ·exact Nat.le_trans (name_size p1) (by decide)
   ·exact Nat.le_trans (itz_size (by omega) (by omega)) (by decide)
   ·exact Nat.le_trans (itz_size (by omega) (by omega)) (by decide)
   ·have := contB_parts (p5 c hc)
    simp only [conW, List.mem_cons, List.not_mem_nil, or_false] at hx
    rcases hx with rfl | rfl | rfl | rfl
    ·exact Nat.le_trans (name_size this.1) (by decide)
    ·exact vtxt_size _
    ·exact vtxt_size _
    ·exact Nat.le_trans (rsB_size _) (by decide)
 ·show [s].length <= 27 /\ ∀ x ∈ [s], x.size <= 132
  exact ⟨by show 1 <= 27; decide, fun x hx => by rw [List.mem_singleton] at hx; subst hx; exact Nat.le_trans (name_size hs) (by decide)⟩
 ·show (s :: hs.flatMap chW).length <= 27 /\ ∀ x ∈ s :: hs.flatMap chW, x.size <= 132
  refine ⟨by rw [List.length_cons, flat_len hw]; omega, fun x hx => ?_⟩
  simp only [List.mem_cons, List.mem_flatMap] at hx
  rcases hx with rfl | ⟨c, hc, hx⟩
  ·exact Nat.le_trans (name_size h1) (by decide)
  ·have := chB_parts (h2 c hc)
   simp only [chW, List.mem_cons, List.not_mem_nil, or_false] at hx
   rcases hx with rfl | rfl | rfl
   ·exact Nat.le_trans (name_size this.1) (by decide)
   ·exact vtxt_size _
   ·exact vtxt_size _
 ·obtain ⟨n1, n2⟩ := numB_iff.1 h3
  have e : tailE (k, p0, s, c, [], n, ()) = [s, c, itz n] := by rcases hk with rfl | rfl <;> rfl
  rw [e]
  refine ⟨by show 3 <= 27; decide, fun x hx => ?_⟩
  simp only [List.mem_cons, List.not_mem_nil, or_false] at hx
  rcases hx with rfl | rfl | rfl
  ·exact Nat.le_trans (name_size h1) (by decide)
  ·exact Nat.le_trans (name_size h2) (by decide)
  ·exact Nat.le_trans (itz_size (by omega) (by omega)) (by decide)
 ·obtain ⟨n1, n2⟩ := numB_iff.1 h3
  have e : tailE (k, p0, ByteArray.empty, ByteArray.empty, [], n, ()) = [itz n] := by rcases hk with rfl | rfl | rfl | rfl <;> rfl
  rw [e]
  refine ⟨by show 1 <= 27; decide, fun x hx => ?_⟩
  rw [List.mem_singleton] at hx; subst hx
  exact Nat.le_trans (itz_size (by omega) (by omega)) (by decide)
 ·show [].length <= 27 /\ ∀ x ∈ ([] : List ByteArray), x.size <= 132
  exact ⟨by decide, fun x hx => by cases hx⟩
theorem join_short {e : EV} (h : rightB e = true) : (joinB (partsE e) ⟨#[32]⟩).size <= 4000 := by
 obtain ⟨h1, h2⟩ := parts_size h
 have hj := joinB_size (sep := ⟨#[32]⟩) h2
 have s4 : (⟨#[32]⟩ : ByteArray).size = 1 := rfl
 rw [s4] at hj
 have := Nat.mul_le_mul_right 133 h1
 omega
theorem text_short (e : EV) : (textE e).size <= 4000 := by
 unfold textE
 split
 ·rename_i h; exact join_short h
 ·decide
theorem evparts_ok (e : EV) (hr : rightB e = true) : PF 32 (.cons (shE.mk fun _ => e) .nil) (Sh.mkL 1 .str fun _ => partsE e) := by
 rcases right_kinds hr with ⟨p, hp, rfl⟩ | ⟨s, hs, rfl⟩ | ⟨s, hs, h1, _, l2, h2, rfl⟩ | ⟨k, s, c, n, hk, h1, h2, h3, rfl⟩ | ⟨k, n, hk, h3, rfl⟩ | rfl
 ·obtain ⟨p1, p2, p3, p4, p5⟩ := pod_parts hp
  exact parts0_ok p (by omega) (by omega) (by omega)
 ·exact parts1_ok s
 ·exact parts2_ok s hs (by omega)
 ·obtain ⟨n1, n2⟩ := numB_iff.1 h3
  rcases hk with rfl | rfl
  ·exact parts4_ok s c n (by omega)
  ·exact parts5_ok s c n (by omega)
 ·obtain ⟨n1, n2⟩ := numB_iff.1 h3
  rcases hk with rfl | rfl | rfl | rfl
  ·exact parts3_ok n (by omega)
  ·exact parts6_ok n (by omega)
  ·exact parts7_ok n (by omega)
  ·exact parts8_ok n (by omega)
 ·exact parts9_ok
noncomputable def Fr3 : Table := addS 31 (.cons (.slice 1 .str) (.cons .str .nil)) (fun l s => (.str fun _ => joinB (l ()) (s ()), [fun _ => List.length (α := ByteArray) (l ()) <= 140737488355328 /\ (joinB (l ()) (s ())).size <= 140737488355328])) (addS 32 (.cons shE .nil) (fun k nm pr po l s c hs n => (Sh.mkL 1 .str fun _ => partsE (k (), (nm (), pr (), po (), l (), ()), s (), c (), hs (), n (), ()), [fun _ => rightB (k (), (nm (), pr (), po (), l (), ()), s (), c (), hs (), n (), ()) = true])) Fr2)
theorem Fr3_ok : TableOK Tryz.prog G0 Fr3 := addS_ok qf31.callable (fun l s h => join_ok (l ()) (s ()) h.1.1 h.1.2) (addS_ok qf32.callable (fun k nm pr po l s c hs n h => evparts_ok (k (), (nm (), pr (), po (), l (), ()), s (), c (), hs (), n (), ()) h.1) Fr2_ok)
theorem evtext_ok (e : EV) (hl : e.2.1.2.2.2.1.length <= 9223372036854775807) (hh : e.2.2.2.2.1.length <= 9223372036854775807) : PF 13 (.cons (shE.mk fun _ => e) .nil) (.str fun _ => textE e) := by
 obtain ⟨k, ⟨nm, pr, po, l, ⟨⟩⟩, s, c, hs, n, ⟨⟩⟩ := e
 refine tX qf13 Fr3_ok (.any) rfl ?_
 conv => arg 5; cbv
 have fC : ∀ j : Unit -> Int, shC.fits (shC.mk fun x => (l : List shC.val).getD (j ()).toNat shC.dflt) := fun j => fits_of_mk shC _
 have fH : ∀ j : Unit -> Int, shH.fits (shH.mk fun x => (hs : List shH.val).getD (j ()).toNat shH.dflt) := fun j => fits_of_mk shH _
 have l1 : (rdL shC.rd (fun _ => (l.length : Int)) fun j => shC.mk fun _ => (l : List shC.val).getD (j ()).toNat shC.dflt).length <= 9223372036854775807 := by
  rw [rdL_len]; show ((l.length : Nat) : Int).toNat <= _; rw [Int.toNat_natCast]; exact hl
 have l2 : (rdL shH.rd (fun _ => (hs.length : Int)) fun j => shH.mk fun _ => (hs : List shH.val).getD (j ()).toNat shH.dflt).length <= 9223372036854775807 := by
  rw [rdL_len]; show ((hs.length : Nat) : Int).toNat <= _; rw [Int.toNat_natCast]; exact hh
 have eE : shE.rd (shE.mk fun _ => ((k, (nm, pr, po, l, ()), s, c, hs, n, ()) : EV)) = ((k, (nm, pr, po, l, ()), s, c, hs, n, ()) : EV) := rd_mk shE _
 have eP : rdL Sh.str.rd (fun _ => ((partsE (shE.rd (shE.mk fun _ => ((k, (nm, pr, po, l, ()), s, c, hs, n, ()) : EV)))).length : Int)) (fun j => Sh.str.mk fun _ => (partsE (shE.rd (shE.mk fun _ => ((k, (nm, pr, po, l, ()), s, c, hs, n, ()) : EV)))).getD (j ()).toNat ByteArray.empty) = partsE (k, (nm, pr, po, l, ()), s, c, hs, n, ()) := (rdL_mkL .str _).trans (congrArg partsE eE)
 refine ⟨⟨l1, l2, fC, fH, trivial⟩, fun h => ⟨rfl, ?_⟩, fun h => ?_⟩
 ·have h : (!rightB (k, (nm, pr, po, l, ()), s, c, hs, n, ())) = true := (congrArg (fun e => !rightB e) eE).symm.trans h
  show (⟨#[]⟩ : ByteArray) = textE _
  unfold textE
  rw [if_neg (by simpa using h)]
 ·have h : (!rightB (k, (nm, pr, po, l, ()), s, c, hs, n, ())) = false := (congrArg (fun e => !rightB e) eE).symm.trans h
  have h : rightB (k, (nm, pr, po, l, ()), s, c, hs, n, ()) = true := by simpa using h
  have z1 := (parts_size h).1
  have z2 := join_short h
  refine ⟨⟨(congrArg rightB eE).trans h, fC, fH, ⟨?_, ?_⟩, fun j => trivial, trivial⟩, rfl, ?_⟩
  ·exact Nat.le_trans (Nat.le_of_eq (congrArg List.length eP)) (by omega)
  ·exact Nat.le_trans (Nat.le_of_eq (congrArg (fun l => (joinB l ⟨#[32]⟩).size) eP)) (by omega)
  ·refine (congrArg (fun l => joinB l ⟨#[32]⟩) eP).trans ?_
   unfold textE
   rw [if_pos h]
noncomputable def Fr4 : Table := addS 13 (.cons shE .nil) (fun k nm pr po l s c hs n => (.str fun _ => textE (k (), (nm (), pr (), po (), l (), ()), s (), c (), hs (), n (), ()), [fun _ => List.length (α := CV) (l ()) <= 9223372036854775807, fun _ => List.length (α := HV) (hs ()) <= 9223372036854775807])) Fr3
theorem Fr4_ok : TableOK Tryz.prog G0 Fr4 := addS_ok qf13.callable (fun k nm pr po l s c hs n h => evtext_ok (k (), (nm (), pr (), po (), l (), ()), s (), c (), hs (), n (), ()) h.1 h.2.1) Fr3_ok
theorem index_ok (l : List ByteArray) (x : ByteArray) (hl : l.length <= 9223372036854775807) : PF 34 (.cons (Sh.mkL 1 .str fun _ => l) (.cons (.str fun _ => x) .nil)) (.int .i64 fun _ => Lib.idxOfS l x) := by
 refine PFun.of_below qf34.callable fun M w vs hG hI hr => ?_
 rcases hr with ⟨h, _⟩ | ⟨_, v, ws, rfl, hv, hn⟩
 ·cases h
 rcases hn with ⟨h, _⟩ | ⟨_, v2, ws, rfl, hv2, hn⟩
 ·cases h
 obtain ⟨_, rfl⟩ := hn
 obtain ⟨_, hv2⟩ := hv2
 obtain rfl : v2 = .string x := by simpa using hv2
 obtain ⟨a, n, cap, ⟨_, hv⟩, hn, hnc, hcap, _, hrow⟩ := hv
 obtain rfl : v = .slice a n cap := by simpa using hv
 obtain rfl : n = l.length := by have : (n : Int) = (l.length : Int) := hn; omega
 rcases Nat.eq_zero_or_pos l.length with h0 | h0
 ·have e : l = [] := List.length_eq_zero_iff.1 h0
  subst e
  refine (Tryz.slices_Index_string_empty a cap x w).mono ?_
  rintro e w' ⟨rfl, rfl⟩
  exact ⟨_, rfl, RowKit.Below.refl _ _, by simp, rfl⟩
 ·obtain ⟨b, base, rfl, hr⟩ := hrow h0
  refine (Tryz.slices_Index_string b base l.length cap l x w (Nat.le_refl _) hl (fun j hj => ?_)).mono ?_
  ·obtain ⟨cs, c1, ⟨_, c2⟩, c3⟩ := hr j hj
   have := c3 0 (by omega)
   rw [Nat.mul_one, Nat.add_zero, c2] at this
   exact hI.mem _ _ _ this
  ·rintro e w' ⟨rfl, rfl⟩
   exact ⟨_, rfl, RowKit.Below.refl _ _, by simp, by simp⟩
theorem split1_ok (s : ByteArray) (c : UInt8) (hs : s.size < 4294967281) : PF 33 (.cons (.str fun _ => s) (.cons (.str fun _ => (⟨#[c]⟩ : ByteArray)) .nil)) (Sh.mkL 1 .str fun _ => spB c s) := by
 have := split_ok s ⟨#[c]⟩ hs (Nat.le_refl 1)
 rw [split_spB] at this
 exact this
noncomputable def Fr5 : Table := addS 33 (.cons .str (.cons .str .nil)) (fun s c => (Sh.mkL 1 .str fun _ => spB ((c ()).data.toList.getD 0 0) (s ()), [fun _ => (s ()).size < 4294967281, fun _ => ∃ x, c () = (⟨#[x]⟩ : ByteArray)]))
 (addS 34 (.cons (.slice 1 .str) (.cons .str .nil)) (fun l x => (.int .i64 fun _ => Lib.idxOfS (l ()) (x ()), [fun _ => List.length (α := ByteArray) (l ()) <= 9223372036854775807]))
 (addS 37 (.cons (.slice 1 .str) .nil) (fun w => (Sh.mkL 10 shC fun _ => consOf (w ()), [fun _ => List.length (α := ByteArray) (w ()) <= 1000000, fun _ => ∀ s ∈ (w () : List ByteArray), s.size < 2147483648])) Fr4))
theorem Fr5_ok : TableOK Tryz.prog G0 Fr5 := addS_ok qf33.callable (fun s c h => by
 obtain ⟨x, hx⟩ := h.2.1
 have := split1_ok (s ()) x h.1
 rw [<- hx] at this
 have e : ((c ()).data.toList.getD 0 0) = x := by rw [hx]; rfl
 show PF _ _ (Sh.mkL 1 .str fun _ => spB ((c ()).data.toList.getD 0 0) (s ()))
 rw [e]
 exact this) (addS_ok qf34.callable (fun l x h => index_ok (l ()) (x ()) h.1) (addS_ok qf37.callable (fun w h => containers_ok (w ()) h.1 h.2.1) Fr4_ok))
theorem sp_len (c : UInt8) (s : ByteArray) : 1 <= (spB c s).length /\ (spB c s).length <= s.size + 1 := by
 rw [<- split_spB]
 have h1 : 1 <= (⟨#[c]⟩ : ByteArray).size := Nat.le_refl _
 rw [Lib.splitB_all ⟨#[c]⟩ h1 0 _ s rfl]
 have := Lib.countB_le ⟨#[c]⟩ h1 _ s (Nat.le_refl _)
 omega
theorem sp_size (c : UInt8) (s : ByteArray) : ∀ x ∈ spB c s, x.size <= s.size := by
 rw [<- split_spB]
 exact fun x hx => splitB_size ⟨#[c]⟩ _ s x hx
theorem evmkL_eq {esz : Nat} {s : Sh} {x y : List s.val} (h : x = y) : impP (s.mkL esz fun _ => x) (s.mkL esz fun _ => y) := h ▸ iR
theorem cons_len : ∀ (w : List ByteArray), (consOf w).length <= w.length
 | a :: b :: c :: d :: r => by
   have := cons_len r
   show (consOf r).length + 1 <= r.length + 1 + 1 + 1 + 1
   omega
 | [] => Nat.zero_le _
 | [_] => Nat.zero_le _
 | [_, _] => Nat.zero_le _
 | [_, _, _] => Nat.zero_le _
theorem chs_len : ∀ (w : List ByteArray), (chsOf w).length <= w.length
 | a :: b :: c :: r => by
   have := chs_len r
   show (chsOf r).length + 1 <= r.length + 1 + 1 + 1
   omega
 | [] => Nat.zero_le _
 | [_] => Nat.zero_le _
 | [_, _] => Nat.zero_le _
theorem raw_len (w : List ByteArray) (k : Int) : (rawK w k).2.1.2.2.2.1.length <= w.length /\ (rawK w k).2.2.2.2.1.length <= w.length := by
 have d := fun n => List.length_drop (i := n) (l := w)
 unfold rawK
 split
 ·exact ⟨Nat.le_trans (cons_len _) (by rw [d]; omega), Nat.zero_le _⟩
 ·split
  ·exact ⟨Nat.zero_le _, Nat.zero_le _⟩
  ·split
   ·exact ⟨Nat.zero_le _, Nat.le_trans (chs_len _) (by rw [d]; omega)⟩
   ·split
    ·exact ⟨Nat.zero_le _, Nat.zero_le _⟩
    ·split <;> exact ⟨Nat.zero_le _, Nat.zero_le _⟩
theorem rd_drop (w : List ByteArray) (n : Nat) (hn : n <= w.length) : (rdL Sh.str.rd (fun _ => (w.length : Int) - (n : Int)) fun j => Sh.str.mk fun _ => w.getD ((n : Int) + j ()).toNat ByteArray.empty) = w.drop n := by
 refine rdL_ext Sh.str.rd _ _ (w.drop n : List ByteArray) (by
  have e : (w.drop n).length = w.length - n := List.length_drop
  have e : ((w.drop n).length : Int) = (w.length : Int) - (n : Int) := by omega
  exact e.symm) fun i hi => ?_
 have e : (w.drop n).length = w.length - n := List.length_drop
 have hi : i < (w.drop n).length := hi
 show w.getD ((n : Int) + (i : Int)).toNat ByteArray.empty = (w.drop n)[i]
 rw [show ((n : Int) + (i : Int)).toNat = n + i by omega, List.getD_eq_getElem?_getD, List.getElem?_eq_getElem (by omega), List.getElem_drop]
 rfl
def prA (s : ByteArray) : Env := [(5, .ptr 1 0), (2, .ptr 0 0), (0, .str fun _ => s)]
def prS (E : EV) : Store := [(0, .var (shE.mk fun _ => e0)), (1, .var (shE.mk fun _ => E))]
theorem evparse_ok (s : ByteArray) (hs : s.size <= 900000) : PF 14 (.cons (.str fun _ => s) .nil) (.tuple (.cons (shE.mk fun _ => (parseE s).1) (.cons (.bool fun _ => (parseE s).2) .nil))) := by
 refine tX qf14 Fr5_ok ((.both .any (.both (.both (.to 16) (.no (.no (.no (.no (.both (.to 16) (.to 16))))))) (.both (.both (.to 16) (.no (.no (.no (.both (.to 16) (.to 16)))))) (.both (.both (.to 16) (.no (.no (.both (.to 16) (.to 16))))) (.both (.both (.to 16) (.both (.to 16) (.to 16))) (.both (.both (.to 16) (.both (.to 16) (.to 16))) (.both (.to 16) (.to 16))))))))) rfl ?_
 conv => arg 5; cbv
 have l1 := sp_len 32 s
 have z1 := sp_size 32 s
 have hx0 : (0 : Int) <= 0 /\ (0 : Int) < ((spB 32 s).length : Int) := ⟨by decide, by omega⟩
 have eW : (rdL Sh.str.rd (fun _ => ((wordsL.length : Nat) : Int)) fun j => Sh.str.mk fun _ => wordsL.getD (j ()).toNat ByteArray.empty) = wordsL := rdL_mkL .str wordsL
 have hk : ∀ {β : Type} (f : Int -> β), f (Lib.idxOfS (rdL Sh.str.rd (fun _ => ((wordsL.length : Nat) : Int)) fun j => Sh.str.mk fun _ => wordsL.getD (j ()).toNat ByteArray.empty) (wd (spB 32 s) 0)) = f (Lib.idxOfS wordsL (wd (spB 32 s) 0)) := fun f => congrArg (fun l => f (Lib.idxOfS l (wd (spB 32 s) 0))) eW
 obtain ⟨k, hkk⟩ : ∃ k, k = Lib.idxOfS wordsL (wd (spB 32 s) 0) := ⟨_, rfl⟩
 rw [<- hkk] at hk
 obtain ⟨E, hE⟩ : ∃ E, E = rawK (spB 32 s) k := ⟨_, rfl⟩
 have hP : parseE s = if rightB E = true /\ textE E = s then (E, true) else (e0, false) := by
  rw [hE, hkk]; rfl
 have b1 : s.size < 4294967281 := by omega
 have b2 : (rdL Sh.str.rd (fun _ => ((wordsL.length : Nat) : Int)) fun j => Sh.str.mk fun _ => wordsL.getD (j ()).toNat ByteArray.empty).length <= 9223372036854775807 := Nat.le_trans (Nat.le_of_eq (congrArg List.length eW)) (by decide)
 have zs : ∀ i : Nat, (wd (spB 32 s) i).size < 2147483648 := fun i => by
  unfold wd
  rw [List.getD_eq_getElem?_getD]
  cases h : (spB 32 s)[i]? with
  | none => decide
  | some x =>
    have := z1 x (List.mem_of_getElem? h)
    show x.size < _
    omega
 have ki : ∀ (n : Int), (Lib.idxOfS (rdL Sh.str.rd (fun _ => ((wordsL.length : Nat) : Int)) fun j => Sh.str.mk fun _ => wordsL.getD (j ()).toNat ByteArray.empty) (wd (spB 32 s) 0) == n) = true -> k = n := fun n h => by
  have := (hk fun k => (k == n)).symm.trans h
  simpa using this
 have kn : ∀ (n : Int), (Lib.idxOfS (rdL Sh.str.rd (fun _ => ((wordsL.length : Nat) : Int)) fun j => Sh.str.mk fun _ => wordsL.getD (j ()).toNat ByteArray.empty) (wd (spB 32 s) 0) == n) = false -> k ≠ n := fun n h => by
  have := (hk fun k => (k == n)).symm.trans h
  simpa using this
 have kf : ∀ (n : Int), k ≠ n -> (Lib.idxOfS (rdL Sh.str.rd (fun _ => ((wordsL.length : Nat) : Int)) fun j => Sh.str.mk fun _ => wordsL.getD (j ()).toNat ByteArray.empty) (wd (spB 32 s) 0) == n) = false := fun n h => (hk fun k => (k == n)).trans (by simpa using h)
 have lt : ∀ n : Nat, decide ((n : Int) < ((spB 32 s).length : Int)) = true -> n < (spB 32 s).length := fun n h => by have := of_decide_eq_true h; omega
 have nl : ∀ n : Nat, decide ((n : Int) < ((spB 32 s).length : Int)) = false -> ¬ n < (spB 32 s).length := fun n h => by have := of_decide_eq_false h; omega
 have ix : ∀ (i n : Nat), i < n -> n <= (spB 32 s).length -> (0 : Int) <= (i : Int) /\ (i : Int) < ((spB 32 s).length : Int) := fun i n h1 h2 => by omega
 have kE : Lib.idxOfS (rdL Sh.str.rd (fun _ => ((wordsL.length : Nat) : Int)) fun j => Sh.str.mk fun _ => wordsL.getD (j ()).toNat ByteArray.empty) (wd (spB 32 s) 0) = k := hk id
 have zP : impP (.agg (.cons (.int .i64 fun _ => 0) (.cons (.agg (.cons (.str fun _ => ByteArray.empty) (.cons (.int .i64 fun _ => 0) (.cons (.int .i64 fun _ => 0) (.cons .nils .nil))))) (.cons (.str fun _ => ByteArray.empty) (.cons (.str fun _ => ByteArray.empty) (.cons .nils (.cons (.int .i64 fun _ => 0) .nil))))))) (shE.mk fun _ => e0) := ⟨⟨rfl, rfl⟩, ⟨rfl, ⟨rfl, rfl⟩, ⟨rfl, rfl⟩, rfl, rfl⟩, rfl, rfl, rfl, ⟨rfl, rfl⟩, rfl⟩
 refine ⟨⟨b1, ⟨32, rfl⟩, hx0, b2, fun j => trivial, (by show drawOK _ _ = true; decide +kernel), trivial⟩, fun h => ⟨rfl, ?_⟩, fun g => ?_⟩
 ·have h : decide (k < 0) = true := (hk fun k => decide (k < 0)).symm.trans h
  have h : k < 0 := of_decide_eq_true h
  have e : parseE s = (e0, false) := by
   rw [hP, if_neg]
   rintro ⟨hr, _⟩
   have e1 : E.1 = k := by
    rw [hE]
    unfold rawK
    rw [if_neg (by omega), if_neg (by omega), if_neg (by omega), if_neg (by omega)]
    split <;> rfl
   rcases right_kinds hr with ⟨p, hp, h1⟩ | ⟨s, hs, h1⟩ | ⟨s, hs, _, _, _, _, h1⟩ | ⟨k', s, c, n, hk', _, _, _, h1⟩ | ⟨k', n, hk', _, h1⟩ | h1
   all_goals
    rw [h1] at e1
    dsimp only at e1
    omega
  rw [e]
  exact ⟨zP, rfl, rfl⟩
 clear hkk
 have r14 : ¬ (k = 0 /\ 4 < (spB 32 s).length) -> ¬ (k = 1 /\ 1 < (spB 32 s).length) -> ¬ (k = 2 /\ 1 < (spB 32 s).length) -> ¬ ((k = 4 \/ k = 5) /\ 3 < (spB 32 s).length) -> E = if 1 < (spB 32 s).length then (k, p0, ByteArray.empty, ByteArray.empty, [], atz (wd (spB 32 s) 1), ()) else (k, p0, ByteArray.empty, ByteArray.empty, [], 0, ()) := fun c1 c2 c3 c4 => by
  rw [hE]
  unfold rawK
  rw [if_neg c1, if_neg c2, if_neg c3, if_neg c4]
 have d1 : ∀ n : Nat, n <= (spB 32 s).length -> (rdL Sh.str.rd (fun _ => ((spB 32 s).length : Int) - (n : Int)) fun j => Sh.str.mk fun _ => (spB 32 s).getD ((n : Int) + j ()).toNat ByteArray.empty).length <= 1000000 := fun n hn => by
  refine Nat.le_trans (Nat.le_of_eq (congrArg List.length (rd_drop (spB 32 s) n hn))) ?_
  have e : ((spB 32 s).drop n).length = (spB 32 s).length - n := List.length_drop
  show ((spB 32 s).drop n).length <= 1000000
  omega
 have il : ∀ n : Nat, n <= (spB 32 s).length -> (0 : Int) <= (n : Int) /\ (n : Int) <= ((spB 32 s).length : Int) := fun n h1 => by omega
 have d2 : ∀ n : Nat, n <= (spB 32 s).length -> ∀ x ∈ (rdL Sh.str.rd (fun _ => ((spB 32 s).length : Int) - (n : Int)) fun j => Sh.str.mk fun _ => (spB 32 s).getD ((n : Int) + j ()).toNat ByteArray.empty), x.size < 2147483648 := fun n hn x hx => by
  rw [rd_drop (spB 32 s) n hn] at hx
  have := z1 x (List.mem_of_mem_drop hx)
  omega
 have rl := raw_len (spB 32 s) k
 rw [<- hE] at rl
 refine tree_meet (prA s) (prS E) 2 (by rfl) ?_ ?_
 ·refine ⟨fun h0 => ?_, fun h0 => ?_⟩
  ·have k0 := ki 0 h0
   refine ⟨fun a => ?_, fun a => ?_⟩
   ·have a := lt 4 a
    refine ⟨⟨ix 1 5 (by decide) a, ix 2 5 (by decide) a, zs 2, ix 3 5 (by decide) a, zs 3, il 4 (by omega), d1 4 (by omega), d2 4 (by omega), fun j => trivial, (by show drawOK _ _ = true; decide +kernel), trivial⟩, rfl, fun i => i, by rfl, ⟨iR, iR, iR, trivial⟩, ⟨zP, ?_, trivial⟩⟩
    have hX := hE.trans (if_pos ⟨k0, a⟩)
    subst hX
    exact ⟨⟨rfl, kE.trans k0⟩, ⟨rfl, ⟨rfl, rfl⟩, ⟨rfl, rfl⟩, evmkL_eq (esz := 10) (s := shC) (congrArg consOf (rd_drop (spB 32 s) 4 (by omega))), rfl⟩, rfl, rfl, rfl, ⟨rfl, rfl⟩, rfl⟩
   ·have a := nl 4 a
    refine ⟨⟨kf 1 (by omega), trivial⟩, ⟨kf 2 (by omega), trivial⟩, ⟨kf 4 (by omega), trivial⟩, ⟨kf 5 (by omega), trivial⟩, ?_⟩
    refine ⟨fun q => ?_, fun q => ?_⟩
    ·have q := lt 1 q
     refine ⟨⟨ix 1 2 (by decide) q, zs 1, trivial⟩, rfl, fun i => i, by rfl, ⟨iR, iR, iR, trivial⟩, ⟨zP, ?_, trivial⟩⟩
     have hX := (r14 (by omega) (by omega) (by omega) (by omega)).trans (if_pos q)
     subst hX
     exact ⟨⟨rfl, kE⟩, ⟨rfl, ⟨rfl, rfl⟩, ⟨rfl, rfl⟩, rfl, rfl⟩, rfl, rfl, rfl, ⟨rfl, rfl⟩, rfl⟩
    ·have q := nl 1 q
     refine ⟨rfl, fun i => i, by rfl, ⟨iR, iR, iR, trivial⟩, ⟨zP, ?_, trivial⟩⟩
     have hX := (r14 (by omega) (by omega) (by omega) (by omega)).trans (if_neg q)
     subst hX
     exact ⟨⟨rfl, kE⟩, ⟨rfl, ⟨rfl, rfl⟩, ⟨rfl, rfl⟩, rfl, rfl⟩, rfl, rfl, rfl, ⟨rfl, rfl⟩, rfl⟩
  ·have k0 := kn 0 h0
   refine ⟨fun h1 => ?_, fun h1 => ?_⟩
   ·have k1 := ki 1 h1
    refine ⟨fun a => ?_, fun a => ?_⟩
    ·have a := lt 1 a
     refine ⟨⟨ix 1 2 (by decide) a, trivial⟩, rfl, fun i => i, by rfl, ⟨iR, iR, iR, trivial⟩, ⟨zP, ?_, trivial⟩⟩
     have hX := hE.trans ((if_neg (by omega)).trans (if_pos ⟨k1, a⟩))
     subst hX
     exact ⟨⟨rfl, kE.trans k1⟩, ⟨rfl, ⟨rfl, rfl⟩, ⟨rfl, rfl⟩, rfl, rfl⟩, rfl, rfl, rfl, ⟨rfl, rfl⟩, rfl⟩
    ·have a := nl 1 a
     refine ⟨⟨kf 2 (by omega), trivial⟩, ⟨kf 4 (by omega), trivial⟩, ⟨kf 5 (by omega), trivial⟩, ?_⟩
     refine ⟨fun q => ?_, fun q => ?_⟩
     ·have q := lt 1 q
      refine ⟨⟨ix 1 2 (by decide) q, zs 1, trivial⟩, rfl, fun i => i, by rfl, ⟨iR, iR, iR, trivial⟩, ⟨zP, ?_, trivial⟩⟩
      have hX := (r14 (by omega) (by omega) (by omega) (by omega)).trans (if_pos q)
      subst hX
      exact ⟨⟨rfl, kE⟩, ⟨rfl, ⟨rfl, rfl⟩, ⟨rfl, rfl⟩, rfl, rfl⟩, rfl, rfl, rfl, ⟨rfl, rfl⟩, rfl⟩
     ·have q := nl 1 q
      refine ⟨rfl, fun i => i, by rfl, ⟨iR, iR, iR, trivial⟩, ⟨zP, ?_, trivial⟩⟩
      have hX := (r14 (by omega) (by omega) (by omega) (by omega)).trans (if_neg q)
      subst hX
      exact ⟨⟨rfl, kE⟩, ⟨rfl, ⟨rfl, rfl⟩, ⟨rfl, rfl⟩, rfl, rfl⟩, rfl, rfl, rfl, ⟨rfl, rfl⟩, rfl⟩
   ·have k1 := kn 1 h1
    refine ⟨fun h2 => ?_, fun h2 => ?_⟩
    ·have k2 := ki 2 h2
     refine ⟨fun a => ?_, fun a => ?_⟩
     ·have a := lt 1 a
      refine ⟨⟨ix 1 2 (by decide) a, il 2 (by omega), d1 2 (by omega), d2 2 (by omega), fun j => trivial, (by show drawOK _ _ = true; decide +kernel), trivial⟩, rfl, fun i => i, by rfl, ⟨iR, iR, iR, trivial⟩, ⟨zP, ?_, trivial⟩⟩
      have hX := hE.trans ((if_neg (by omega)).trans ((if_neg (by omega)).trans (if_pos ⟨k2, a⟩)))
      subst hX
      exact ⟨⟨rfl, kE.trans k2⟩, ⟨rfl, ⟨rfl, rfl⟩, ⟨rfl, rfl⟩, rfl, rfl⟩, rfl, rfl, evmkL_eq (esz := 7) (s := shH) (congrArg chsOf (rd_drop (spB 32 s) 2 (by omega))), ⟨rfl, rfl⟩, rfl⟩
     ·have a := nl 1 a
      refine ⟨⟨kf 4 (by omega), trivial⟩, ⟨kf 5 (by omega), trivial⟩, ?_⟩
      refine ⟨fun q => ?_, fun q => ?_⟩
      ·have q := lt 1 q
       refine ⟨⟨ix 1 2 (by decide) q, zs 1, trivial⟩, rfl, fun i => i, by rfl, ⟨iR, iR, iR, trivial⟩, ⟨zP, ?_, trivial⟩⟩
       have hX := (r14 (by omega) (by omega) (by omega) (by omega)).trans (if_pos q)
       subst hX
       exact ⟨⟨rfl, kE⟩, ⟨rfl, ⟨rfl, rfl⟩, ⟨rfl, rfl⟩, rfl, rfl⟩, rfl, rfl, rfl, ⟨rfl, rfl⟩, rfl⟩
      ·have q := nl 1 q
       refine ⟨rfl, fun i => i, by rfl, ⟨iR, iR, iR, trivial⟩, ⟨zP, ?_, trivial⟩⟩
       have hX := (r14 (by omega) (by omega) (by omega) (by omega)).trans (if_neg q)
       subst hX
       exact ⟨⟨rfl, kE⟩, ⟨rfl, ⟨rfl, rfl⟩, ⟨rfl, rfl⟩, rfl, rfl⟩, rfl, rfl, rfl, ⟨rfl, rfl⟩, rfl⟩
    ·have k2 := kn 2 h2
     refine ⟨fun h4 => ?_, fun h4 => ?_⟩
     ·have k4 : k = 4 \/ k = 5 := .inl (ki 4 h4)
      refine ⟨fun a => ?_, fun a => ?_⟩
      ·have a := lt 3 a
       refine ⟨⟨ix 1 4 (by decide) a, ix 2 4 (by decide) a, ix 3 4 (by decide) a, zs 3, (by show drawOK _ _ = true; decide +kernel), trivial⟩, rfl, fun i => i, by rfl, ⟨iR, iR, iR, trivial⟩, ⟨zP, ?_, trivial⟩⟩
       have hX := hE.trans ((if_neg (by omega)).trans ((if_neg (by omega)).trans ((if_neg (by omega)).trans (if_pos ⟨k4, a⟩))))
       subst hX
       exact ⟨⟨rfl, kE⟩, ⟨rfl, ⟨rfl, rfl⟩, ⟨rfl, rfl⟩, rfl, rfl⟩, rfl, rfl, rfl, ⟨rfl, rfl⟩, rfl⟩
      ·have a := nl 3 a
       refine ⟨fun q => ?_, fun q => ?_⟩
       ·have q := lt 1 q
        refine ⟨⟨ix 1 2 (by decide) q, zs 1, trivial⟩, rfl, fun i => i, by rfl, ⟨iR, iR, iR, trivial⟩, ⟨zP, ?_, trivial⟩⟩
        have hX := (r14 (by omega) (by omega) (by omega) (by omega)).trans (if_pos q)
        subst hX
        exact ⟨⟨rfl, kE⟩, ⟨rfl, ⟨rfl, rfl⟩, ⟨rfl, rfl⟩, rfl, rfl⟩, rfl, rfl, rfl, ⟨rfl, rfl⟩, rfl⟩
       ·have q := nl 1 q
        refine ⟨rfl, fun i => i, by rfl, ⟨iR, iR, iR, trivial⟩, ⟨zP, ?_, trivial⟩⟩
        have hX := (r14 (by omega) (by omega) (by omega) (by omega)).trans (if_neg q)
        subst hX
        exact ⟨⟨rfl, kE⟩, ⟨rfl, ⟨rfl, rfl⟩, ⟨rfl, rfl⟩, rfl, rfl⟩, rfl, rfl, rfl, ⟨rfl, rfl⟩, rfl⟩
     ·have k4' := kn 4 h4
      refine ⟨fun h5 => ?_, fun h5 => ?_⟩
      ·have k4 : k = 4 \/ k = 5 := .inr (ki 5 h5)
       refine ⟨fun a => ?_, fun a => ?_⟩
       ·have a := lt 3 a
        refine ⟨⟨ix 1 4 (by decide) a, ix 2 4 (by decide) a, ix 3 4 (by decide) a, zs 3, (by show drawOK _ _ = true; decide +kernel), trivial⟩, rfl, fun i => i, by rfl, ⟨iR, iR, iR, trivial⟩, ⟨zP, ?_, trivial⟩⟩
        have hX := hE.trans ((if_neg (by omega)).trans ((if_neg (by omega)).trans ((if_neg (by omega)).trans (if_pos ⟨k4, a⟩))))
        subst hX
        exact ⟨⟨rfl, kE⟩, ⟨rfl, ⟨rfl, rfl⟩, ⟨rfl, rfl⟩, rfl, rfl⟩, rfl, rfl, rfl, ⟨rfl, rfl⟩, rfl⟩
       ·have a := nl 3 a
        refine ⟨fun q => ?_, fun q => ?_⟩
        ·have q := lt 1 q
         refine ⟨⟨ix 1 2 (by decide) q, zs 1, trivial⟩, rfl, fun i => i, by rfl, ⟨iR, iR, iR, trivial⟩, ⟨zP, ?_, trivial⟩⟩
         have hX := (r14 (by omega) (by omega) (by omega) (by omega)).trans (if_pos q)
         subst hX
         exact ⟨⟨rfl, kE⟩, ⟨rfl, ⟨rfl, rfl⟩, ⟨rfl, rfl⟩, rfl, rfl⟩, rfl, rfl, rfl, ⟨rfl, rfl⟩, rfl⟩
        ·have q := nl 1 q
         refine ⟨rfl, fun i => i, by rfl, ⟨iR, iR, iR, trivial⟩, ⟨zP, ?_, trivial⟩⟩
         have hX := (r14 (by omega) (by omega) (by omega) (by omega)).trans (if_neg q)
         subst hX
         exact ⟨⟨rfl, kE⟩, ⟨rfl, ⟨rfl, rfl⟩, ⟨rfl, rfl⟩, rfl, rfl⟩, rfl, rfl, rfl, ⟨rfl, rfl⟩, rfl⟩
      ·have k5 := kn 5 h5
       refine ⟨fun q => ?_, fun q => ?_⟩
       ·have q := lt 1 q
        refine ⟨⟨ix 1 2 (by decide) q, zs 1, trivial⟩, rfl, fun i => i, by rfl, ⟨iR, iR, iR, trivial⟩, ⟨zP, ?_, trivial⟩⟩
        have hX := (r14 (by omega) (by omega) (by omega) (by omega)).trans (if_pos q)
        subst hX
        exact ⟨⟨rfl, kE⟩, ⟨rfl, ⟨rfl, rfl⟩, ⟨rfl, rfl⟩, rfl, rfl⟩, rfl, rfl, rfl, ⟨rfl, rfl⟩, rfl⟩
       ·have q := nl 1 q
        refine ⟨rfl, fun i => i, by rfl, ⟨iR, iR, iR, trivial⟩, ⟨zP, ?_, trivial⟩⟩
        have hX := (r14 (by omega) (by omega) (by omega) (by omega)).trans (if_neg q)
        subst hX
        exact ⟨⟨rfl, kE⟩, ⟨rfl, ⟨rfl, rfl⟩, ⟨rfl, rfl⟩, rfl, rfl⟩, rfl, rfl, rfl, ⟨rfl, rfl⟩, rfl⟩
 clear r14 hE
 obtain ⟨kk, ⟨nm, pr, po, l, ⟨⟩⟩, nn, c, hs, n, ⟨⟩⟩ := E
 refine bX Fr5_ok (.any) _ rfl ?_
 conv => arg 5; cbv
 have fC : ∀ j : Unit -> Int, shC.fits (shC.mk fun x => (l : List shC.val).getD (j ()).toNat shC.dflt) := fun j => fits_of_mk shC _
 have fH : ∀ j : Unit -> Int, shH.fits (shH.mk fun x => (hs : List shH.val).getD (j ()).toNat shH.dflt) := fun j => fits_of_mk shH _
 have hl : l.length <= 9223372036854775807 := Nat.le_trans rl.1 (by omega)
 have hh : hs.length <= 9223372036854775807 := Nat.le_trans rl.2 (by omega)
 have m1 : (rdL shC.rd (fun _ => (l.length : Int)) fun j => shC.mk fun _ => (l : List shC.val).getD (j ()).toNat shC.dflt).length <= 9223372036854775807 := by
  rw [rdL_len]; show ((l.length : Nat) : Int).toNat <= _; rw [Int.toNat_natCast]; exact hl
 have m2 : (rdL shH.rd (fun _ => (hs.length : Int)) fun j => shH.mk fun _ => (hs : List shH.val).getD (j ()).toNat shH.dflt).length <= 9223372036854775807 := by
  rw [rdL_len]; show ((hs.length : Nat) : Int).toNat <= _; rw [Int.toNat_natCast]; exact hh
 have eE : shE.rd (shE.mk fun _ => ((kk, (nm, pr, po, l, ()), nn, c, hs, n, ()) : EV)) = ((kk, (nm, pr, po, l, ()), nn, c, hs, n, ()) : EV) := rd_mk shE _
 refine ⟨⟨m1, m2, fC, fH, trivial⟩, fun h => ⟨rfl, ?_⟩, fun h => ⟨⟨m1, m2, fC, fH, trivial⟩, fun t => ⟨rfl, ?_⟩, fun t => ⟨rfl, ?_⟩⟩⟩
 ·have h : (!rightB (kk, (nm, pr, po, l, ()), nn, c, hs, n, ())) = true := (congrArg (fun e => !rightB e) eE).symm.trans h
  have e : parseE s = (e0, false) := by
   rw [hP, if_neg]
   rintro ⟨hr, _⟩
   rw [hr] at h; cases h
  rw [e]
  exact ⟨zP, rfl, rfl⟩
 ·have t : ¬ textE (kk, (nm, pr, po, l, ()), nn, c, hs, n, ()) = s := fun q => absurd ((congrArg textE eE).trans q) (of_decide_eq_true t)
  have e : parseE s = (e0, false) := by
   rw [hP, if_neg]
   rintro ⟨_, q⟩
   exact t q
  rw [e]
  exact ⟨zP, rfl, rfl⟩
 ·have h : (!rightB (kk, (nm, pr, po, l, ()), nn, c, hs, n, ())) = false := (congrArg (fun e => !rightB e) eE).symm.trans h
  have h : rightB (kk, (nm, pr, po, l, ()), nn, c, hs, n, ()) = true := by simpa using h
  have t : textE (kk, (nm, pr, po, l, ()), nn, c, hs, n, ()) = s := (congrArg textE eE).symm.trans (Decidable.not_not.1 (of_decide_eq_false t))
  rw [hP, if_pos ⟨h, t⟩]
  exact ⟨iR, rfl, rfl⟩
noncomputable def Fr6 : Table := addS 14 (.cons .str .nil) (fun s => (.tuple (.cons (shE.mk fun _ => (parseE (s ())).1) (.cons (.bool fun _ => (parseE (s ())).2) .nil)), [fun _ => (s ()).size <= 900000])) Fr5
theorem Fr6_ok : TableOK Tryz.prog G0 Fr6 := addS_ok qf14.callable (fun s h => evparse_ok (s ()) h.1) Fr5_ok
structure LiX where
 s : ByteArray
 es : List EV
def liA (x : LiX) : Env := [(0, .str fun _ => x.s), (6, .int .i64 fun _ => (x.es.length : Int) + 1), (5, .slice (some 0) 9 (fun _ => (x.es.length : Int)) fun j => shE.mk fun _ => (x.es : List shE.val).getD (j ()).toNat shE.dflt)]
def liS : Store := [(0, .own 9 27)]
theorem evcut_len {s : List UInt8} {c : UInt8} {p t : List UInt8} {b : Bool} (h : Lib.cut s [c] = (p, t, b)) : p.length <= s.length /\ t.length <= s.length := by
 unfold Lib.cut at h
 split at h
 ·obtain ⟨rfl, rfl, rfl⟩ : s.take (Lib.index s [c]).toNat = p /\ s.drop ((Lib.index s [c]).toNat + [c].length) = t /\ true = b := by simpa using h
  rw [List.length_take, List.length_drop]
  omega
 ·obtain ⟨rfl, rfl, rfl⟩ : s = p /\ [] = t /\ false = b := by simpa using h
  exact ⟨Nat.le_refl _, Nat.zero_le _⟩
theorem getD_any {α : Type} {l : List α} {i : Nat} (a b : α) (h : i < l.length) : l.getD i a = l.getD i b := by
 rw [List.getD_eq_getElem?_getD, List.getD_eq_getElem?_getD, List.getElem?_eq_getElem h]; rfl
theorem sp_cases (s : ByteArray) : (spB 10 s = [s] /\ cutB s nlB = (s, ByteArray.empty, false)) \/ ∃ p t q r, spB 10 s = p :: spB 10 t /\ spB 10 t = q :: r /\ cutB s nlB = (p, t, true) /\ p.size <= s.size /\ t.size <= s.size := by
 rcases cut_spL 10 s.data.toList with ⟨q1, q2⟩ | ⟨p, t, q1, q2⟩
 ·refine .inl ⟨?_, ?_⟩
  ·unfold spB; rw [q1]; show [toB s.data.toList] = [s]; rw [toB_data]
  ·show (toB (Lib.cut s.data.toList [10]).1, toB (Lib.cut s.data.toList [10]).2.1, (Lib.cut s.data.toList [10]).2.2) = _
   rw [q2]; show (toB s.data.toList, _, _) = _; rw [toB_data]; rfl
 ·obtain ⟨k1, k2⟩ := evcut_len q2
  rw [size_toB] at k1 k2
  obtain ⟨q, r, hq⟩ : ∃ q r, spB 10 (toB t) = q :: r := by
   cases h : spB 10 (toB t) with
   | nil => have := (sp_len 10 (toB t)).1; rw [h] at this; exact absurd this (by decide)
   | cons q r => exact ⟨q, r, rfl⟩
  refine .inr ⟨toB p, toB t, q, r, ?_, hq, ?_, by rw [<- size_toB]; exact k1, by rw [<- size_toB]; exact k2⟩
  ·unfold spB; rw [q1]; rfl
  ·show (toB (Lib.cut s.data.toList [10]).1, toB (Lib.cut s.data.toList [10]).2.1, (Lib.cut s.data.toList [10]).2.2) = _
   rw [q2]
theorem evlines_ok (s : ByteArray) (hs : s.size <= 900000) : PF 16 (.cons (.str fun _ => s) .nil) (.tuple (.cons (Sh.mkL 9 shE fun _ => (linesE s).1) (.cons (.int .i64 fun _ => (linesE s).2.1) (.cons (.int .i64 fun _ => (linesE s).2.2) .nil)))) := by
 generalize hR : linesE s = R
 refine tX qf16 Fr6_ok (.any) rfl ?_
 conv => arg 5; cbv
 refine run_own (A := _) 5 9 27 (shE.mk fun _ => e0) (by rfl) (by rfl) (by rfl) ?_
 refine run_inv (ι := LiX) (fun x => (spB 10 x.s).length) (fun x => goL (spB 10 x.s) x.es = R /\ x.s.size <= 900000 /\ x.es.length <= 1000) liA (fun _ => liS) 1 ⟨s, []⟩ (fun i => i) (by rfl) (by rfl) ⟨hR, hs, Nat.zero_le _⟩ ?_ ⟨iR, iR, ⟨.inr rfl, rfl, rfl, fun j h0 h1 => absurd h1 (by show ¬ j < 0; omega)⟩, trivial⟩ ⟨⟨rfl, rfl⟩, trivial⟩
 rintro ⟨s, es⟩ hi ih
 dsimp only at hi
 refine bX Fr6_ok (.any) _ rfl ?_
 conv => arg 5; cbv
 obtain ⟨hg, hz, hlen⟩ := hi
 have b1 : s.size < 4294967281 := by omega
 refine ⟨fun h => ⟨⟨b1, trivial⟩, fun h2 => ⟨rfl, ?_⟩, fun h2 => ⟨fun h3 => ⟨rfl, ?_⟩, fun h3 => ⟨⟨?_, trivial⟩, fun h4 => ⟨rfl, ?_⟩, fun h4 => ⟨⟨?_, trivial⟩, ?_⟩⟩⟩⟩, fun h => ⟨rfl, ?_⟩⟩
 ·have h : ¬ s = ByteArray.empty := of_decide_eq_true (p := ¬ s = ByteArray.empty) h
  have h2 : (1000 : Int) < (es.length : Int) + 1 := of_decide_eq_true h2
  have e : R = ([], 1001, 12) := by
   rw [<- hg]
   rcases sp_cases s with ⟨q1, _⟩ | ⟨p, t, q, r, q1, q2, _⟩
   ·rw [q1]; unfold goL; rw [if_neg h, if_pos (by omega)]
   ·rw [q1, q2]; unfold goL; rw [if_pos (by omega)]
  rw [e]
  exact ⟨rfl, ⟨rfl, by show (es.length : Int) + 1 = 1001; omega⟩, ⟨rfl, rfl⟩, rfl⟩
 ·have h : ¬ s = ByteArray.empty := of_decide_eq_true (p := ¬ s = ByteArray.empty) h
  have h2 : ¬ (1000 : Int) < (es.length : Int) + 1 := of_decide_eq_false h2
  have h3 : (!(cutB s nlB).2.2) = true := h3
  have e : R = ([], (es.length : Int) + 1, 10) := by
   rw [<- hg]
   rcases sp_cases s with ⟨q1, _⟩ | ⟨p, t, q, r, q1, q2, q3, _⟩
   ·rw [q1]; unfold goL; rw [if_neg h, if_neg (by omega)]
   ·rw [q3] at h3; cases h3
  rw [e]
  exact ⟨rfl, ⟨rfl, rfl⟩, ⟨rfl, rfl⟩, rfl⟩
 ·show (cutB s nlB).1.size <= 900000
  rcases sp_cases s with ⟨q1, q2⟩ | ⟨p, t, q, r, q1, q2, q3, q4, q5⟩
  ·rw [q2]; exact hz
  ·rw [q3]; exact Nat.le_trans q4 hz
 ·have h2 : ¬ (1000 : Int) < (es.length : Int) + 1 := of_decide_eq_false h2
  have h3 : (!(cutB s nlB).2.2) = false := h3
  have h4 : (!(parseE (cutB s nlB).1).2) = true := h4
  have e : R = ([], (es.length : Int) + 1, 11) := by
   rw [<- hg]
   rcases sp_cases s with ⟨q1, q2⟩ | ⟨p, t, q, r, q1, q2, q3, _⟩
   ·rw [q2] at h3; cases h3
   ·rw [q3] at h4
    have h4 : (!(parseE p).2) = true := h4
    rw [q1, q2]; unfold goL; rw [if_neg (by omega), if_neg (fun k => by rw [k] at h4; cases h4)]
  rw [e]
  exact ⟨rfl, ⟨rfl, rfl⟩, ⟨rfl, rfl⟩, rfl⟩
 ·show (0 : Int) < 1 /\ ((es.length : Int) + 1) * 128 <= 140737488355328
  omega
 ·have h2 : ¬ (1000 : Int) < (es.length : Int) + 1 := of_decide_eq_false h2
  have h3 : (!(cutB s nlB).2.2) = false := h3
  have h4 : (!(parseE (cutB s nlB).1).2) = false := h4
  rcases sp_cases s with ⟨q1, q2⟩ | ⟨p, t, q, r, q1, q2, q3, q4, q5⟩
  ·rw [q2] at h3; cases h3
  have h4 : (!(parseE p).2) = false := by rw [q3] at h4; exact h4
  have hw : IntKind.i64.wrap ((es.length : Int) + 1 + 1) = ((es ++ [(parseE p).1]).length : Int) + 1 := by
   rw [IntWalk.i64_in _ ⟨by omega, by omega⟩, List.length_append, List.length_singleton]; omega
  have e1 : (cutB s nlB).1 = p := by rw [q3]
  have e2 : (cutB s nlB).2.1 = t := by rw [q3]
  refine ih ⟨t, es ++ [(parseE p).1]⟩ (fun i => bif beqN i 0 then 2 else i) ⟨?_, Nat.le_trans q5 hz, ?_⟩ ?_ (by rfl) ⟨e2, ⟨rfl, hw⟩, ?_, trivial⟩ ⟨⟨rfl, rfl⟩, trivial⟩
  ·show goL (spB 10 t) (es ++ [(parseE p).1]) = R
   rw [<- hg, q1, q2]
   conv => rhs; unfold goL
   rw [if_neg (by omega), if_pos (by simpa using h4)]
  ·show (es ++ [(parseE p).1]).length <= 1000
   rw [List.length_append, List.length_singleton]; omega
  ·show (spB 10 t).length < (spB 10 s).length
   rw [q1]; exact Nat.lt_succ_self _
  ·rw [<- e1]
   exact push_imp shE (some 2) 9 es (parseE (cutB s nlB).1).1
 ·have h : ¬ ¬ s = ByteArray.empty := of_decide_eq_false (p := ¬ s = ByteArray.empty) h
  have h : s = ByteArray.empty := Decidable.not_not.1 h
  have e : R = (es, 0, 0) := by
   rw [<- hg, h]
   show goL [ByteArray.empty] es = _
   unfold goL
   rw [if_pos rfl]
  rw [e]
  exact ⟨⟨.inl rfl, rfl, rfl, fun j _ _ => iR⟩, ⟨rfl, rfl⟩, ⟨rfl, rfl⟩, rfl⟩
def sptA (l : List EV) (x : Nat × ByteArray) : Env := [(9, .int .i64 fun _ => (x.1 : Int)), (8, .int .i64 fun _ => (l.length : Int)), (7, Sh.mkL 9 shE fun _ => l), (3, .str fun _ => x.2)]
theorem evscript_ok (l : List EV) (hl : l.length <= 1000) (h1 : ∀ e ∈ l, e.2.1.2.2.2.1.length <= 9223372036854775807) (h2 : ∀ e ∈ l, e.2.2.2.2.1.length <= 9223372036854775807) : PF 18 (.cons (Sh.mkL 9 shE fun _ => l) .nil) (.str fun _ => scriptE l) := by
 generalize hR : scriptE l = R
 refine tX qf18 Fr6_ok (.any) rfl ?_
 conv => arg 5; cbv
 refine run_inv (ι := Nat × ByteArray) (fun x => l.length - x.1) (fun x => x.1 <= l.length /\ scrG (l.drop x.1) x.2 = R /\ x.2.size <= 4001 * x.1) (sptA l) (fun _ => []) 0 (0, ByteArray.empty) (fun i => i) (by rfl) (by rfl) ⟨Nat.zero_le _, hR, by decide⟩ ?_ ⟨iR, iR, iR, iR, trivial⟩ trivial
 rintro ⟨i, a⟩ hi ih
 dsimp only at hi
 refine bX Fr6_ok (.any) _ rfl ?_
 conv => arg 5; cbv
 obtain ⟨hi1, hg, hz⟩ := hi
 refine ⟨fun h => ?_, fun h => ⟨rfl, ?_⟩⟩
 ·have h : (i : Int) < (l.length : Int) := of_decide_eq_true h
  have hi2 : i < l.length := by omega
  have hw : IntKind.i64.wrap ((i : Int) + 1) = ((i + 1 : Nat) : Int) := by rw [IntWalk.i64_in _ ⟨by omega, by omega⟩]; omega
  have hm : l.getD i e0 ∈ l := by
   rw [List.getD_eq_getElem?_getD, List.getElem?_eq_getElem hi2]; exact List.getElem_mem hi2
  have eg : List.getD l ((i : Int)).toNat (Sh.dflt shE) = l.getD i e0 := by
   rw [Int.toNat_natCast]
   exact getD_any (α := EV) _ _ hi2
  have k1 := h1 _ hm
  have k2 := h2 _ hm
  have e := drop_at e0 hi2
  rw [e] at hg
  have eg2 : ∀ (P : EV -> Prop), P (l.getD i e0) -> P (List.getD l ((i : Int)).toNat (Sh.dflt shE)) := fun P h => eg ▸ h
  have eE : shE.rd (shE.mk fun _ => List.getD l ((i : Int)).toNat (Sh.dflt shE)) = l.getD i e0 := (rd_mk shE _).trans eg
  have m1 : ∀ x : EV, x.2.1.2.2.2.1.length <= 9223372036854775807 -> (rdL shC.rd (fun _ => (List.length (α := CV) x.2.1.2.2.2.1 : Int)) fun j => shC.mk fun _ => (x.2.1.2.2.2.1 : List shC.val).getD (j ()).toNat shC.dflt).length <= 9223372036854775807 := fun x hx => by
   rw [rdL_len]; show ((x.2.1.2.2.2.1.length : Nat) : Int).toNat <= _; rw [Int.toNat_natCast]; exact hx
  have m2 : ∀ x : EV, x.2.2.2.2.1.length <= 9223372036854775807 -> (rdL shH.rd (fun _ => (List.length (α := HV) x.2.2.2.2.1 : Int)) fun j => shH.mk fun _ => (x.2.2.2.2.1 : List shH.val).getD (j ()).toNat shH.dflt).length <= 9223372036854775807 := fun x hx => by
   rw [rdL_len]; show ((x.2.2.2.2.1.length : Nat) : Int).toNat <= _; rw [Int.toNat_natCast]; exact hx
  have ts := text_short (l.getD i e0)
  refine ⟨⟨⟨Int.natCast_nonneg i, h⟩, m1 _ (eg2 (fun x => x.2.1.2.2.2.1.length <= 9223372036854775807) k1), m2 _ (eg2 (fun x => x.2.2.2.2.1.length <= 9223372036854775807) k2), fun j => fits_of_mk shC _, fun j => fits_of_mk shH _, trivial⟩, fun t => ⟨rfl, ?_⟩, fun t => ⟨⟨?_, ?_, trivial⟩, ?_⟩⟩
  ·have t : textE (l.getD i e0) = ByteArray.empty := (congrArg textE eE).symm.trans (of_decide_eq_true t)
   unfold scrG at hg
   rw [if_pos t] at hg
   exact hg
  ·refine Nat.le_trans (Nat.le_of_eq (congrArg (fun x => (textE x).size + nlB.size) eE)) ?_
   show (textE (l.getD i e0)).size + 1 <= _
   omega
  ·refine Nat.le_trans (Nat.le_of_eq (congrArg (fun x => a.size + (textE x ++ nlB).size) eE)) ?_
   show a.size + (textE (l.getD i e0) ++ nlB).size <= _
   rw [ByteArray.size_append]
   have : nlB.size = 1 := rfl
   omega
  ·have t : ¬ textE (l.getD i e0) = ByteArray.empty := fun q => absurd ((congrArg textE eE).trans q) (of_decide_eq_false t)
   unfold scrG at hg
   rw [if_neg t] at hg
   refine ih (i + 1, a ++ (textE (l.getD i e0) ++ nlB)) (fun i => i) ⟨by show i + 1 <= l.length; omega, hg, ?_⟩ (by show l.length - (i + 1) < l.length - i; omega) (by rfl) ⟨⟨rfl, hw⟩, iR, iR, congrArg (fun x => a ++ (textE x ++ nlB)) eE, trivial⟩ trivial
   show (a ++ (textE (l.getD i e0) ++ nlB)).size <= 4001 * (i + 1)
   rw [ByteArray.size_append, ByteArray.size_append]
   have : nlB.size = 1 := rfl
   omega
 ·have h : ¬ (i : Int) < (l.length : Int) := of_decide_eq_false h
  rw [List.drop_eq_nil_of_le (by omega)] at hg
  exact hg
def mnI (a b : Int) : Int := if b < a then b else a
def stP (n : Int) (c : CV) : Int := IntKind.i64.wrap (n + IntKind.i64.wrap (10 + mnI (c.1.size : Int) 3000))
def gP : List CV -> Nat -> Int -> Int
 | [], _, n => n
 | c :: r, i, n => if (50 : Int) < i then 5000 else gP r (i + 1) (stP n c)
def greatP (p : PoV) : Int := gP p.2.2.2.1 0 p.1.size
def stE (n : Int) (c : HV) : Int := IntKind.i64.wrap (n + IntKind.i64.wrap (20 + mnI (c.1.size : Int) 5000))
def gE : List HV -> Nat -> Int -> Int
 | [], _, n => n
 | c :: r, i, n => if (30 : Int) < i then 5000 else gE r (i + 1) (stE n c)
def inE (p : PoV) (s c : ByteArray) : Int := IntKind.i64.wrap (IntKind.i64.wrap (20 + greatP p) + mnI (IntKind.i64.wrap ((s.size : Int) + (c.size : Int))) 5000)
def greatE (e : EV) : Int := gE e.2.2.2.2.1 0 (inE e.2.1 e.2.2.1 e.2.2.2.1)
def gpA (l : List CV) (x : Nat × Int) : Env := [(12, .int .i64 fun _ => (x.1 : Int)), (11, .int .i64 fun _ => (l.length : Int)), (10, Sh.mkL 10 shC fun _ => l), (3, .int .i64 fun _ => x.2)]
theorem greatP_ok (p : PoV) (hl : p.2.2.2.1.length <= 9223372036854775807) : PF 19 (.cons (shP.mk fun _ => p) .nil) (.int .i64 fun _ => greatP p) := by
 obtain ⟨nm, pr, po, l, ⟨⟩⟩ := p
 have hl : l.length <= 9223372036854775807 := hl
 generalize hR : greatP (nm, pr, po, l, ()) = R
 refine tX qf19 Fr1_ok (.any) rfl ?_
 conv => arg 5; cbv
 refine run_inv (ι := Nat × Int) (fun x => l.length - x.1) (fun x => x.1 <= l.length /\ gP (l.drop x.1) x.1 x.2 = R) (gpA l) (fun _ => []) 0 (0, (nm.size : Int)) (fun i => i) (by rfl) (by rfl) ⟨Nat.zero_le _, hR⟩ ?_ ⟨iR, iR, iR, iR, trivial⟩ trivial
 rintro ⟨i, n⟩ hi ih
 dsimp only at hi
 obtain ⟨hi1, hg⟩ := hi
 refine bX Fr1_ok (.any) _ rfl ?_
 conv => arg 5; cbv
 refine ⟨fun h => ?_, fun h => ⟨rfl, rfl, ?_⟩⟩
 ·have h : (i : Int) < (l.length : Int) := of_decide_eq_true h
  have hi2 : i < l.length := by omega
  have hw : IntKind.i64.wrap ((i : Int) + 1) = ((i + 1 : Nat) : Int) := by rw [IntWalk.i64_in _ ⟨by omega, by omega⟩]; omega
  rw [drop_at c0 hi2] at hg
  unfold gP at hg
  have eg : List.getD (α := CV) l ((i : Int)).toNat (shC.dflt : shC.val) = l.getD i c0 := by
   rw [Int.toNat_natCast]
   exact getD_any (α := CV) _ _ hi2
  refine ⟨⟨⟨Int.natCast_nonneg i, h⟩, trivial⟩, fun k => ⟨rfl, rfl, ?_⟩, fun k => ?_⟩
  ·have k : (50 : Int) < (i : Int) := of_decide_eq_true k
   rw [if_pos k] at hg
   exact hg
  ·have k : ¬ (50 : Int) < (i : Int) := of_decide_eq_false k
   rw [if_neg k] at hg
   refine ih (i + 1, stP n (l.getD i c0)) (fun i => i) ⟨by show i + 1 <= l.length; omega, hg⟩ (by show l.length - (i + 1) < l.length - i; omega) (by rfl) ⟨⟨rfl, hw⟩, iR, iR, ⟨rfl, congrArg (stP n) eg⟩, trivial⟩ trivial
 ·have h : ¬ (i : Int) < (l.length : Int) := of_decide_eq_false h
  rw [List.drop_eq_nil_of_le (by omega)] at hg
  exact hg
noncomputable def Fp1 : Table := addS 19 (.cons shP .nil) (fun nm pr po l => (.int .i64 fun _ => greatP (nm (), pr (), po (), l (), ()), [fun _ => List.length (α := CV) (l ()) <= 9223372036854775807])) Fr6
theorem Fp1_ok : TableOK Tryz.prog G0 Fp1 := addS_ok qf19.callable (fun nm pr po l h => greatP_ok (nm (), pr (), po (), l (), ()) h.1) Fr6_ok
def geA (l : List HV) (x : Nat × Int) : Env := [(22, .int .i64 fun _ => (x.1 : Int)), (21, .int .i64 fun _ => (l.length : Int)), (20, Sh.mkL 7 shH fun _ => l), (3, .int .i64 fun _ => x.2)]
theorem greatE_ok (e : EV) (hl : e.2.1.2.2.2.1.length <= 9223372036854775807) (hh : e.2.2.2.2.1.length <= 9223372036854775807) : PF 7 (.cons (shE.mk fun _ => e) .nil) (.int .i64 fun _ => greatE e) := by
 obtain ⟨k, ⟨nm, pr, po, l, ⟨⟩⟩, s, c, hs, n, ⟨⟩⟩ := e
 have hl : l.length <= 9223372036854775807 := hl
 have hh : hs.length <= 9223372036854775807 := hh
 have e1 := rd_list l
 have l1 : (rdL shC.rd (fun _ => (l.length : Int)) fun j => shC.mk fun _ => (l : List shC.val).getD (j ()).toNat shC.dflt).length <= 9223372036854775807 := by
  rw [rdL_len]; show ((l.length : Nat) : Int).toNat <= _; rw [Int.toNat_natCast]; exact hl
 generalize hR : greatE (k, (nm, pr, po, l, ()), s, c, hs, n, ()) = R
 refine tX qf7 Fp1_ok (.any) rfl ?_
 conv => arg 5; cbv
 refine ⟨⟨l1, fun j => fits_of_mk shC _, (by show drawOK _ _ = true; decide +kernel), trivial⟩, ?_⟩
 refine run_inv (ι := Nat × Int) (fun x => hs.length - x.1) (fun x => x.1 <= hs.length /\ gE (hs.drop x.1) x.1 x.2 = R) (geA hs) (fun _ => []) 0 (0, inE (nm, pr, po, l, ()) s c) (fun i => i) (by rfl) (by rfl) ⟨Nat.zero_le _, hR⟩ ?_ ⟨iR, iR, iR, ⟨rfl, congrArg (fun x : List CV => inE (nm, pr, po, x, ()) s c) e1⟩, trivial⟩ trivial
 rintro ⟨i, n⟩ hi ih
 dsimp only at hi
 obtain ⟨hi1, hg⟩ := hi
 refine bX Fp1_ok (.any) _ rfl ?_
 conv => arg 5; cbv
 refine ⟨fun h => ?_, fun h => ⟨rfl, rfl, ?_⟩⟩
 ·have h : (i : Int) < (hs.length : Int) := of_decide_eq_true h
  have hi2 : i < hs.length := by omega
  have hw : IntKind.i64.wrap ((i : Int) + 1) = ((i + 1 : Nat) : Int) := by rw [IntWalk.i64_in _ ⟨by omega, by omega⟩]; omega
  rw [drop_at h0 hi2] at hg
  unfold gE at hg
  have eg : List.getD (α := HV) hs ((i : Int)).toNat (shH.dflt : shH.val) = hs.getD i h0 := by
   rw [Int.toNat_natCast]
   exact getD_any (α := HV) _ _ hi2
  refine ⟨⟨⟨Int.natCast_nonneg i, h⟩, trivial⟩, fun k => ⟨rfl, rfl, ?_⟩, fun k => ?_⟩
  ·have k : (30 : Int) < (i : Int) := of_decide_eq_true k
   rw [if_pos k] at hg
   exact hg
  ·have k : ¬ (30 : Int) < (i : Int) := of_decide_eq_false k
   rw [if_neg k] at hg
   refine ih (i + 1, stE n (hs.getD i h0)) (fun i => i) ⟨by show i + 1 <= hs.length; omega, hg⟩ (by show hs.length - (i + 1) < hs.length - i; omega) (by rfl) ⟨⟨rfl, hw⟩, iR, iR, ⟨rfl, congrArg (stE n) eg⟩, trivial⟩ trivial
 ·have h : ¬ (i : Int) < (hs.length : Int) := of_decide_eq_false h
  rw [List.drop_eq_nil_of_le (by omega)] at hg
  exact hg
noncomputable def Fp2 : Table := addS 7 (.cons shE .nil) (fun k nm pr po l s c hs n => (.int .i64 fun _ => greatE (k (), (nm (), pr (), po (), l (), ()), s (), c (), hs (), n (), ()), [fun _ => List.length (α := CV) (l ()) <= 9223372036854775807, fun _ => List.length (α := HV) (hs ()) <= 9223372036854775807])) Fp1
theorem Fp2_ok : TableOK Tryz.prog G0 Fp2 := addS_ok qf7.callable (fun k nm pr po l s c hs n h => greatE_ok (k (), (nm (), pr (), po (), l (), ()), s (), c (), hs (), n (), ()) h.1 h.2.1) Fp1_ok
noncomputable def Fp3 : Table := addS 16 (.cons .str .nil) (fun s => (.tuple (.cons (Sh.mkL 9 shE fun _ => (linesE (s ())).1) (.cons (.int .i64 fun _ => (linesE (s ())).2.1) (.cons (.int .i64 fun _ => (linesE (s ())).2.2) .nil))), [fun _ => (s ()).size <= 900000])) (addS 18 (.cons (.slice 9 shE) .nil) (fun l => (.str fun _ => scriptE (l ()), [fun _ => List.length (α := EV) (l ()) <= 1000, fun _ => ∀ e ∈ (l () : List EV), e.2.1.2.2.2.1.length <= 9223372036854775807, fun _ => ∀ e ∈ (l () : List EV), e.2.2.2.2.1.length <= 9223372036854775807])) Fp2)
theorem Fp3_ok : TableOK Tryz.prog G0 Fp3 := addS_ok qf16.callable (fun s h => evlines_ok (s ()) h.1) (addS_ok qf18.callable (fun l h => evscript_ok (l ()) h.1 h.2.1 h.2.2.1) Fp2_ok)
theorem evfirst_ok : PF 6 .nil (.bool fun _ => true) := by
 refine tX qf6 Fp3_ok ((.yes (.yes (.yes (.yes (.yes (.yes (.yes (.yes (.yes (.yes (.yes (.yes (.yes (.yes (.yes (.yes .any))))))))))))))))) rfl ?_
 conv => arg 5; cbv
 exact ⟨⟨(by decide +kernel), (by decide +kernel), (by decide +kernel), (by decide +kernel), (by decide +kernel), trivial⟩, ⟨by show _ = _; kernel_rfl, trivial⟩, ⟨by show _ = _; kernel_rfl, trivial⟩, ⟨by show _ = _; kernel_rfl, trivial⟩, ⟨by decide +kernel, trivial⟩, ⟨by show _ = _; kernel_rfl, trivial⟩, ⟨by show _ = _; kernel_rfl, trivial⟩, ⟨by show _ = _; kernel_rfl, trivial⟩, ⟨by show _ = _; kernel_rfl, trivial⟩, ⟨by decide +kernel, trivial⟩, ⟨by show _ = _; kernel_rfl, trivial⟩, ⟨by show _ = _; kernel_rfl, trivial⟩, ⟨by show _ = _; kernel_rfl, trivial⟩, ⟨by show _ = _; kernel_rfl, trivial⟩, ⟨by show _ = _; kernel_rfl, trivial⟩, ⟨by show _ = _; kernel_rfl, trivial⟩, ⟨by show _ = _; kernel_rfl, trivial⟩, ⟨(by decide +kernel), (by decide +kernel), fun j => fits_of_mk shC _, fun j => fits_of_mk shH _, trivial⟩, ⟨by show _ = _; kernel_rfl, trivial⟩, ⟨(by decide +kernel), (by decide +kernel), fun j => fits_of_mk shC _, fun j => fits_of_mk shH _, fun j => fits_of_mk shC _, fun j => fits_of_mk shH _, trivial⟩, ⟨by show _ = _; kernel_rfl, trivial⟩, ⟨(by decide +kernel), (by decide +kernel), fun j => fits_of_mk shC _, fun j => fits_of_mk shH _, trivial⟩, rfl, by show _ = _; kernel_rfl⟩
noncomputable def Fp4 : Table := addS 6 .nil (.bool fun _ => true, []) Fp3
theorem Fp4_ok : TableOK Tryz.prog G0 Fp4 := addS_ok qf6.callable (fun _ => evfirst_ok) Fp3_ok
theorem right_few {e : EV} (h : rightB e = true) : e.2.1.2.2.2.1.length <= 6 /\ e.2.2.2.2.1.length <= 6 := by
 rcases right_kinds h with ⟨p, hp, rfl⟩ | ⟨s, hs, rfl⟩ | ⟨s, hs, h1, _, l2, h2, rfl⟩ | ⟨k, s, c, n, hk, h1, h2, h3, rfl⟩ | ⟨k, n, hk, h3, rfl⟩ | rfl
 ·exact ⟨(pod_parts hp).2.2.2.1.2, Nat.zero_le _⟩
 ·exact ⟨Nat.zero_le _, Nat.zero_le _⟩
 ·exact ⟨Nat.zero_le _, l2⟩
 ·exact ⟨Nat.zero_le _, Nat.zero_le _⟩
 ·exact ⟨Nat.zero_le _, Nat.zero_le _⟩
 ·exact ⟨Nat.zero_le _, Nat.zero_le _⟩
theorem parse_few (s : ByteArray) : (parseE s).1.2.1.2.2.2.1.length <= 6 /\ (parseE s).1.2.2.2.2.1.length <= 6 := by
 cases h : (parseE s).2 with
 | true => exact right_few (parse_same h).2
 | false =>
   unfold parseE at h ⊢
   split
   · rename_i k; rw [if_pos k] at h; cases h
   · exact ⟨Nat.zero_le _, Nat.zero_le _⟩
end Go.Proofs.YtpbjcabecalpaaaGreatDoor
