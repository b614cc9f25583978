/- A part of what the walks of this claim stand on. -/
import Derived.Test.YtpbjcabecalpaaaGreatDoorWal
import Derived.Test.YtpbjcabecalpaaaGreatDoorGac
import Derived.Test.YtpbjcabecalpaaaGreatDoorWai
import Derived.Test.YtpbjcabecalpaaaGreatDoorGad
import Derived.Test.YtpbjcabecalpaaaGreatDoorShelf
import Derived.Test.YtpbjcabecalpaaaGreatDoorCards
import Derived.Test.YtpbjcabecalpaaaGreatDoorTie
import Derived.Stop.LaidErr
import Derived.WalkKit
import Derived.ProofKit
import Derived.OpenShut
import Derived.Lay
import Derived.Deep.DeepWitnessRowRef
set_option maxRecDepth 2000
set_option linter.unusedVariables false
set_option linter.unusedSimpArgs false
namespace Go.Proofs.YtpbjcabecalpaaaGreatDoor
open Go Go.Abs Go.Proofs
def rqO (k : Int) : PV := .agg (.cons (.int .i64 fun _ => k) (.cons (.agg (.cons (.str fun _ => ByteArray.empty) (.cons (.int .i64 fun _ => 0) (.cons (.int .i64 fun _ => 0) (.cons .nils .nil))))) (.cons (.str fun _ => ByteArray.empty) (.cons (.str fun _ => ByteArray.empty) (.cons .nils (.cons (.int .i64 fun _ => 0) .nil))))))
def rqA (s : ByteArray) (W : List ByteArray) (i : Nat) : Env := [(18, .int .i64 fun _ => (i : Int)), (17, .int .i64 fun _ => (wordsL.length : Int)), (16, Sh.mkL 1 .str fun _ => wordsL), (5, .ptr 1 0), (4, Sh.mkL 1 .str fun _ => W), (2, .ptr 0 0), (0, .str fun _ => s)]
def rqS (k : Int) : Store := [(0, .var (rqO 0)), (1, .var (rqO k))]
def rqB (s : ByteArray) (W : List ByteArray) : Env := [(5, .ptr 1 0), (4, Sh.mkL 1 .str fun _ => W), (2, .ptr 0 0), (0, .str fun _ => s)]
theorem kd_le (s : ByteArray) : ∀ i, -1 <= kdR s i /\ kdR s i < (i : Int)
 | 0 => ⟨by show (-1 : Int) <= -1; decide, by show (-1 : Int) < 0; decide⟩
 | i + 1 => by
   have := kd_le s i
   unfold kdR
   split <;> omega
theorem rco_mem (m : Nat) : ∀ (n : Nat) (w : List ByteArray), w.length <= n -> (∀ x ∈ w, x.size <= m) -> (rCo w).length <= w.length /\ ∀ c ∈ rCo w, (c.1 : ByteArray).size <= m
 | 0, w, h, _ => by
   have : w = [] := List.length_eq_zero_iff.1 (by omega)
   subst this
   rw [rCo_nil]
   exact ⟨Nat.le_refl _, fun c hc => by cases hc⟩
 | n + 1, w, h, hz => by
   cases w with
   | nil => rw [rCo_nil]; exact ⟨Nat.le_refl _, fun c hc => by cases hc⟩
   | cons a t =>
     rw [List.length_cons] at h
     have hd : (t.drop 3).length = t.length - 3 := List.length_drop
     obtain ⟨h1, h2⟩ := rco_mem m n (t.drop 3) (by omega) (fun x hx => hz x (List.mem_cons_of_mem _ (List.mem_of_mem_drop hx)))
     rw [rCo_cons]
     refine ⟨by rw [List.length_cons, List.length_cons]; omega, fun c hc => ?_⟩
     rcases List.mem_cons.1 hc with rfl | hc
     · exact hz a List.mem_cons_self
     · exact h2 c hc
theorem rch_mem (m : Nat) : ∀ (n : Nat) (w : List ByteArray), w.length <= n -> (∀ x ∈ w, x.size <= m) -> (rCh w).length <= w.length /\ ∀ c ∈ rCh w, (c.1 : ByteArray).size <= m
 | 0, w, h, _ => by
   have : w = [] := List.length_eq_zero_iff.1 (by omega)
   subst this
   rw [rCh_nil]
   exact ⟨Nat.le_refl _, fun c hc => by cases hc⟩
 | n + 1, w, h, hz => by
   cases w with
   | nil => rw [rCh_nil]; exact ⟨Nat.le_refl _, fun c hc => by cases hc⟩
   | cons a t =>
     rw [List.length_cons] at h
     have hd : (t.drop 2).length = t.length - 2 := List.length_drop
     obtain ⟨h1, h2⟩ := rch_mem m n (t.drop 2) (by omega) (fun x hx => hz x (List.mem_cons_of_mem _ (List.mem_of_mem_drop hx)))
     rw [rCh_cons]
     refine ⟨by rw [List.length_cons, List.length_cons]; omega, fun c hc => ?_⟩
     rcases List.mem_cons.1 hc with rfl | hc
     · exact hz a List.mem_cons_self
     · exact h2 c hc
theorem wd_sz {w : List ByteArray} {m : Nat} (hz : ∀ x ∈ w, x.size <= m) (n : Nat) : (wd w n).size <= m := by
 unfold wd
 rw [List.getD_eq_getElem?_getD]
 cases h : w[n]? with
 | none => exact Nat.zero_le _
 | some x => exact hz x (List.mem_of_getElem? h)
structure SzE (m : Nat) (e : EV) : Prop where
 n1 : e.2.1.1.size <= m
 n2 : ∀ c ∈ e.2.1.2.2.2.1, (c.1 : ByteArray).size <= m
 n3 : e.2.1.2.2.2.1.length <= m
 n4 : e.2.2.2.2.1.length <= m
 n5 : e.2.2.1.size <= m
 n6 : e.2.2.2.1.size <= m
 n7 : ∀ c ∈ e.2.2.2.2.1, (c.1 : ByteArray).size <= m
theorem raw_sz {w : List ByteArray} {m : Nat} (hz : ∀ x ∈ w, x.size <= m) (hl : w.length <= m) (k : Int) : SzE m (rawR w k) := by
 have d := fun n => List.length_drop (i := n) (l := w)
 have hw := wd_sz hz
 have e0 : ByteArray.empty.size <= m := Nat.zero_le _
 have l0 : ([] : List CV).length <= m := Nat.zero_le _
 have l1 : ([] : List HV).length <= m := Nat.zero_le _
 have c0 : ∀ c ∈ ([] : List CV), (c.1 : ByteArray).size <= m := fun c hc => by cases hc
 have c1 : ∀ c ∈ ([] : List HV), (c.1 : ByteArray).size <= m := fun c hc => by cases hc
 obtain ⟨a1, a2⟩ := rco_mem m _ (w.drop 4) (Nat.le_refl _) (fun x hx => hz x (List.mem_of_mem_drop hx))
 obtain ⟨b1, b2⟩ := rch_mem m _ (w.drop 2) (Nat.le_refl _) (fun x hx => hz x (List.mem_of_mem_drop hx))
 rw [d] at a1 b1
 unfold rawR
 split
 ·exact ⟨hw 1, a2, by show (rCo (w.drop 4)).length <= m; omega, l1, e0, e0, c1⟩
 ·split
  ·exact ⟨e0, c0, l0, l1, hw 1, e0, c1⟩
  ·split
   ·exact ⟨e0, c0, l0, by show (rCh (w.drop 2)).length <= m; omega, hw 1, e0, b2⟩
   ·split
    ·exact ⟨e0, c0, l0, l1, hw 1, hw 2, c1⟩
    ·split
     ·exact ⟨e0, c0, l0, l1, e0, e0, c1⟩
     ·exact ⟨e0, c0, l0, l1, e0, e0, c1⟩
def qrA (s : ByteArray) (W : List ByteArray) (i : Nat) : Env := [(8, .int .i64 fun _ => (i : Int)), (5, .ptr 1 0), (4, Sh.mkL 1 .str fun _ => W), (2, .ptr 0 0), (0, .str fun _ => s)]
def qrO (nm : ByteArray) (pr po : Int) (cl : List CV) : SObj := .var (.agg (.cons (.int .i64 fun _ => 0) (.cons (.agg (.cons (.str fun _ => nm) (.cons (.int .i64 fun _ => pr) (.cons (.int .i64 fun _ => po) (.cons (.slice (some 2) 10 (fun _ => (cl.length : Int)) fun j => shC.mk fun _ => (cl : List shC.val).getD (j ()).toNat shC.dflt) .nil))))) (.cons (.str fun _ => ByteArray.empty) (.cons (.str fun _ => ByteArray.empty) (.cons .nils (.cons (.int .i64 fun _ => 0) .nil)))))))
def qrS (nm : ByteArray) (pr po : Int) (cl : List CV) : Store := [(0, .var (rqO 0)), (1, qrO nm pr po cl), (2, .own 10 50)]
def qsA (s : ByteArray) (W : List ByteArray) (r : ByteArray) (i k : Nat) : Env := [(11, .int .i64 fun _ => (k : Int)), (10, .str fun _ => r), (9, .ptr 3 0), (8, .int .i64 fun _ => (i : Int)), (5, .ptr 1 0), (4, Sh.mkL 1 .str fun _ => W), (2, .ptr 0 0), (0, .str fun _ => s)]
def qsS (nm : ByteArray) (pr po : Int) (cl : List CV) (a : ByteArray) (v w : VV) (r : ByteArray) (k : Nat) : Store := [(0, .var (rqO 0)), (1, qrO nm pr po cl), (2, .own 10 50), (3, .var (.agg (.cons (.str fun _ => a) (.cons (shVe.mk fun _ => v) (.cons (shVe.mk fun _ => w) (.cons (.arrB 3 fun _ => rsR r k) .nil))))))]
theorem any_succ {s : ByteArray} {k : Nat} (h : k < s.size) (c : UInt8) : anyB s (k + 1) c = (anyB s k c || (byteAt s (k : Int) == (c.toNat : Int))) := by
 unfold anyB
 have hl : k < s.data.toList.length := by rw [size_toB]; exact h
 rw [List.take_succ_eq_append_getElem hl, List.any_append]
 congr 1
 have hb : byteAt s (k : Int) = ((s.data.toList[k].toNat : Nat) : Int) := by
  unfold byteAt
  rw [Int.toNat_natCast, List.getD_eq_getElem?_getD, List.getElem?_eq_getElem hl]; rfl
 rw [hb]
 show (s.data.toList[k] == c || false) = _
 rw [Bool.or_false, Bool.eq_iff_iff, beq_iff_eq, beq_iff_eq]
 exact ⟨fun e => by rw [e], fun e => UInt8.toNat_inj.1 (by omega)⟩
def qtA (s : ByteArray) (W : List ByteArray) (i : Nat) : Env := [(12, .int .i64 fun _ => (i : Int)), (5, .ptr 1 0), (4, Sh.mkL 1 .str fun _ => W), (2, .ptr 0 0), (0, .str fun _ => s)]
def qtO (nm : ByteArray) (cl : List HV) : SObj := .var (.agg (.cons (.int .i64 fun _ => 2) (.cons (.agg (.cons (.str fun _ => ByteArray.empty) (.cons (.int .i64 fun _ => 0) (.cons (.int .i64 fun _ => 0) (.cons .nils .nil))))) (.cons (.str fun _ => nm) (.cons (.str fun _ => ByteArray.empty) (.cons (.slice (some 2) 7 (fun _ => (cl.length : Int)) fun j => shH.mk fun _ => (cl : List shH.val).getD (j ()).toNat shH.dflt) (.cons (.int .i64 fun _ => 0) .nil)))))))
def qtS (nm : ByteArray) (cl : List HV) : Store := [(0, .var (rqO 0)), (1, qtO nm cl), (2, .own 7 47)]
set_option maxHeartbeats 4000000 in
theorem rfeparse_ok (s : ByteArray) (hs : s.size <= 900000) : PF 15 (.cons (.str fun _ => s) .nil) (.tuple (.cons (shE.mk fun _ => (rparseE s).1) (.cons (.bool fun _ => (rparseE s).2) .nil))) := by
 obtain ⟨R, hR⟩ : ∃ R, R = rparseE s := ⟨_, rfl⟩
 rw [<- hR]
 refine tX qf15 Ri0_ok (.any) rfl ?_
 conv => arg 5; cbv
 have l1 := sp_len 32 s
 have z1 := sp_size 32 s
 obtain ⟨W, hW⟩ : ∃ W, W = spB 32 s := ⟨_, rfl⟩
 rw [<- hW] at l1 z1
 refine ⟨⟨⟨by decide, by show s.size < 4294967281; omega⟩, trivial⟩, ?_⟩
 refine run_inv (ι := Nat × Int) (fun x => 10 - x.1) (fun x => x.1 <= 10 /\ x.2 = kdR (wd W 0) x.1) (fun x => rqA s W x.1) (fun x => rqS x.2) 2 (0, -1) (fun i => i) (by rfl) (by rfl) ⟨Nat.zero_le _, rfl⟩ ?_ ⟨iR, iR, iR, iR, by rw [hW]; exact iR, iR, iR, trivial⟩ ⟨iR, iR, trivial⟩
 rintro ⟨i, kk⟩ ⟨hi, hkk⟩ ih
 dsimp only at hi hkk
 obtain ⟨w0, ws, hW0⟩ : ∃ w0 ws, W = w0 :: ws := by
  cases hq : W with
  | nil => rw [hq] at l1; simp at l1
  | cons a b => exact ⟨a, b, rfl⟩
 have ew : wd W 0 = w0 := by rw [hW0]; rfl
 by_cases h10 : i < 10
 ·
  refine bX Ri0_ok ((.yes .any)) _ rfl ?_
  conv => arg 5; cbv
  have hw : IntKind.i64.wrap ((i : Int) + 1) = ((i + 1 : Nat) : Int) := by rw [IntWalk.i64_in _ ⟨by omega, by omega⟩]; omega
  refine ⟨⟨decide_eq_true (show (i : Int) < ((10 : Nat) : Int) by omega), trivial⟩, ⟨⟨Int.natCast_nonneg i, by show (i : Int) < ((10 : Nat) : Int); omega⟩, ⟨by decide, by show (0 : Int) < (W.length : Int); omega⟩, trivial⟩, fun a => ih (i + 1, i) (fun i => i) ⟨by show i + 1 <= 10; omega, ?_⟩ (by show 10 - (i + 1) < 10 - i; omega) (by rfl) ⟨⟨rfl, hw⟩, iR, iR, iR, iR, iR, iR, trivial⟩ ⟨iR, iR, trivial⟩, fun a => ih (i + 1, kk) (fun i => i) ⟨by show i + 1 <= 10; omega, ?_⟩ (by show 10 - (i + 1) < 10 - i; omega) (by rfl) ⟨⟨rfl, hw⟩, iR, iR, iR, iR, iR, iR, trivial⟩ ⟨iR, iR, trivial⟩⟩
  ·have a : wordsL.getD i ByteArray.empty = wd W 0 := of_decide_eq_true a
   exact (if_pos a : kdR (wd W 0) (i + 1) = (i : Int)).symm
  ·have a : ¬ wordsL.getD i ByteArray.empty = wd W 0 := of_decide_eq_false a
   exact hkk.trans (if_neg a : kdR (wd W 0) (i + 1) = kdR (wd W 0) i).symm
 clear ih
 refine bX Ri0_ok ((.no (.to 9))) _ rfl ?_
 conv => arg 5; cbv
 obtain rfl : i = 10 := by omega
 refine tree_meet (rqB s W) (rqS kk) 2 (by rfl) ⟨⟨decide_eq_false (by decide), trivial⟩, rfl, fun i => i, by rfl, ⟨iR, iR, iR, iR, trivial⟩, ⟨iR, iR, trivial⟩⟩ ?_
 have hkd := kd_le (wd W 0) 10
 obtain ⟨K, hK⟩ : ∃ K, K = kk := ⟨_, rfl⟩
 rw [<- hK] at hkk ⊢
 rw [<- hkk] at hkd
 obtain ⟨E, hE⟩ : ∃ E, E = rawR W K := ⟨_, rfl⟩
 have hP : R = if rightB E = true /\ textE E = s then (E, true) else (e0, false) := by
  rw [hR, hE, hkk, hW]; rfl
 clear hR
 have hrd : (rdL Sh.str.rd (fun _ => (W.length : Int)) fun j => Sh.str.mk fun _ => W.getD (j PUnit.unit).toNat Sh.str.dflt) = W := rdL_mkL .str W
 have hwd : ∀ n : Nat, (rdL Sh.str.rd (fun _ => (W.length : Int)) fun j => Sh.str.mk fun _ => W.getD (j PUnit.unit).toNat Sh.str.dflt).getD n ByteArray.empty = wd W n := fun n => congrArg (fun q : List ByteArray => q.getD n ByteArray.empty) hrd
 have zs : ∀ n : Nat, (wd W n).size < 2147483648 := fun n => by
  unfold wd
  rw [List.getD_eq_getElem?_getD]
  cases h : W[n]? with
  | none => decide
  | some x =>
    have := z1 x (List.mem_of_getElem? h)
    show x.size < _
    omega
 have zw : ∀ n : Nat, ((rdL Sh.str.rd (fun _ => (W.length : Int)) fun j => Sh.str.mk fun _ => W.getD (j PUnit.unit).toNat Sh.str.dflt).getD n ByteArray.empty).size < 2147483648 := fun n => by rw [hwd]; exact zs n
 have fs : ∀ (j : PUnit -> Int), Sh.str.fits (Sh.str.mk fun x => W.getD (j PUnit.unit).toNat Sh.str.dflt) := fun j => trivial
 have zP : impP (rqO 0) (shE.mk fun _ => e0) := ⟨⟨rfl, rfl⟩, ⟨rfl, ⟨rfl, rfl⟩, ⟨rfl, rfl⟩, rfl, rfl⟩, rfl, rfl, rfl, ⟨rfl, rfl⟩, rfl⟩
 have imE : ∀ (a b : ByteArray) (n : Int), E = (K, p0, a, b, [], n, ()) -> impP (.agg (.cons (.int .i64 fun _ => K) (.cons (.agg (.cons (.str fun _ => ByteArray.empty) (.cons (.int .i64 fun _ => 0) (.cons (.int .i64 fun _ => 0) (.cons .nils .nil))))) (.cons (.str fun _ => a) (.cons (.str fun _ => b) (.cons .nils (.cons (.int .i64 fun _ => n) .nil))))))) (shE.mk fun _ => E) := fun a b n h => by
  rw [h]
  exact ⟨⟨rfl, rfl⟩, ⟨rfl, ⟨rfl, rfl⟩, ⟨rfl, rfl⟩, rfl, rfl⟩, rfl, rfl, rfl, ⟨rfl, rfl⟩, rfl⟩
 by_cases k0 : K = 0
 ·
  subst k0
  refine bX Ri0_ok ((.yes .any)) _ rfl ?_
  conv => arg 5; cbv
  refine ⟨⟨rfl, trivial⟩, ?_⟩
  refine ⟨⟨by decide, fs, by decide, fs, zw _, by decide, fs, zw _, trivial⟩, ?_⟩
  refine run_ownF 1 4 10 50 (shC.mk fun _ => c0) _ _ (by rfl) (by rfl) (by rfl) (by rfl) (by rfl) (by rfl) ?_
  obtain ⟨nm, hnm⟩ : ∃ x, x = wd W 1 := ⟨_, rfl⟩
  obtain ⟨pr, hpr⟩ : ∃ x, x = rnum (wd W 2) := ⟨_, rfl⟩
  obtain ⟨po, hpo⟩ : ∃ x, x = rnum (wd W 3) := ⟨_, rfl⟩
  obtain ⟨CL, hCL⟩ : ∃ x, x = rCo (W.drop 4) := ⟨_, rfl⟩
  have hE : E = (0, (nm, pr, po, CL, ()), ByteArray.empty, ByteArray.empty, [], 0, ()) := by rw [hE, hnm, hpr, hpo, hCL]; rfl
  refine run_inv (ι := Nat × List CV) (fun x => W.length + 4 - x.1) (fun x => x.1 <= W.length + 4 /\ x.2.length <= x.1 /\ x.2 ++ rCo (W.drop x.1) = CL) (fun x => qrA s W x.1) (fun x => qrS nm pr po x.2) 3 (4, []) (fun i => i) (by rfl) (by rfl) ⟨by show 4 <= W.length + 4; omega, Nat.zero_le _, hCL.symm⟩ ?_ ⟨iR, iR, iR, iR, iR, trivial⟩ ⟨iR, ?_, ⟨rfl, rfl⟩, trivial⟩
  ·rintro ⟨i, cl⟩ ⟨hi, hcl, hrc⟩ ih
   dsimp only at hi hcl hrc
   by_cases hlt : i < W.length
   ·
    refine bX Ri0_ok ((.yes .any)) _ rfl ?_
    conv => arg 5; cbv
    have hw : ∀ m : Nat, m <= 4 -> IntKind.i64.wrap ((i : Int) + (m : Int)) = ((i + m : Nat) : Int) := fun m hm => by rw [IntWalk.i64_in _ ⟨by omega, by omega⟩]; omega
    have w1 : IntKind.i64.wrap ((i : Int) + 1) = ((i + 1 : Nat) : Int) := hw 1 (by decide)
    have w2 : IntKind.i64.wrap ((i : Int) + 2) = ((i + 2 : Nat) : Int) := hw 2 (by decide)
    have w3 : IntKind.i64.wrap ((i : Int) + 3) = ((i + 3 : Nat) : Int) := hw 3 (by decide)
    have w4 : IntKind.i64.wrap ((i : Int) + 4) = ((i + 4 : Nat) : Int) := hw 4 (by decide)
    have p1 : 0 <= IntKind.i64.wrap ((i : Int) + 1) := by rw [w1]; omega
    have p2 : 0 <= IntKind.i64.wrap ((i : Int) + 2) := by rw [w2]; omega
    have p3 : 0 <= IntKind.i64.wrap ((i : Int) + 3) := by rw [w3]; omega
    have hdr : W.drop i = wd W i :: W.drop (i + 1) := by
     unfold wd
     rw [List.getD_eq_getElem?_getD, List.getElem?_eq_getElem hlt]
     exact List.drop_eq_getElem_cons hlt
    have hwt : ∀ m, wd (W.drop (i + 1)) m = wd W (i + 1 + m) := fun m => by
     unfold wd
     rw [List.getD_eq_getElem?_getD, List.getElem?_drop, List.getD_eq_getElem?_getD]
    obtain ⟨ca, hca⟩ : ∃ x, x = wd W i := ⟨_, rfl⟩
    obtain ⟨cv, hcv⟩ : ∃ x, x = rV (wd W (i + 1)) := ⟨_, rfl⟩
    obtain ⟨cw, hcw⟩ : ∃ x, x = rV (wd W (i + 2)) := ⟨_, rfl⟩
    obtain ⟨cr, hcr⟩ : ∃ x, x = wd W (i + 3) := ⟨_, rfl⟩
    have hcon : cl ++ [((ca, cv, cw, rsR cr cr.size, ()) : CV)] ++ rCo (W.drop (i + 4)) = CL := by
     rw [<- hrc, hdr, rCo_cons, hwt 0, hwt 1, hwt 2, List.drop_drop, List.append_assoc, hca, hcv, hcw, hcr]
     rfl
    have hv1 : impP (shVe.mk fun _ => rV ((rdL Sh.str.rd (fun _ => (W.length : Int)) fun j => Sh.str.mk fun _ => W.getD (j PUnit.unit).toNat Sh.str.dflt).getD (IntKind.i64.wrap ((i : Int) + 1)).toNat ByteArray.empty)) (shVe.mk fun _ => cv) := by
     rw [hwd, w1, Int.toNat_natCast, hcv]; exact iR
    have hv2 : impP (shVe.mk fun _ => rV ((rdL Sh.str.rd (fun _ => (W.length : Int)) fun j => Sh.str.mk fun _ => W.getD (j PUnit.unit).toNat Sh.str.dflt).getD (IntKind.i64.wrap ((i : Int) + 2)).toNat ByteArray.empty)) (shVe.mk fun _ => cw) := by
     rw [hwd, w2, Int.toNat_natCast, hcw]; exact iR
    have hv3 : (rdL Sh.str.rd (fun _ => (W.length : Int)) fun j => Sh.str.mk fun _ => W.getD (j PUnit.unit).toNat Sh.str.dflt).getD (IntKind.i64.wrap ((i : Int) + 3)).toNat ByteArray.empty = cr := by
     rw [hwd, w3, Int.toNat_natCast, hcr]
    have zcr : cr.size < 2147483648 := by rw [hcr]; exact zs _
    refine ⟨⟨decide_eq_true (show (i : Int) < (W.length : Int) by omega), trivial⟩, ⟨⟨Int.natCast_nonneg i, by show (i : Int) < (W.length : Int); omega⟩, p1, fs, zw _, p2, fs, zw _, (by show drawOK _ _ = true; decide +kernel), p3, fs, trivial⟩, ?_⟩
    refine run_inv (ι := Nat) (fun k => cr.size - k) (fun k => k <= cr.size) (fun k => qsA s W cr i k) (fun k => qsS nm pr po cl ca cv cw cr k) 4 0 (fun i => i) (by rfl) (by rfl) (Nat.zero_le _) ?_ ⟨iR, hv3, iR, iR, iR, iR, iR, iR, trivial⟩ ⟨iR, iR, ⟨rfl, rfl⟩, ?_, trivial⟩
    ·intro k hk ihk
     by_cases hkl : k < cr.size
     ·
      refine bX Ri0_ok ((.yes .any)) _ rfl ?_
      conv => arg 5; cbv
      have ck : 0 <= (k : Int) /\ (k : Int) < (cr.size : Int) := by omega
      have hwk : IntKind.i64.wrap ((k : Int) + 1) = ((k + 1 : Nat) : Int) := by rw [IntWalk.i64_in _ ⟨by omega, by omega⟩]; omega
      have st : ∀ x y z : Bool, x = anyB cr (k + 1) 99 -> y = anyB cr (k + 1) 109 -> z = anyB cr (k + 1) 104 -> (((rsR cr k).set 0 x).set 1 y).set 2 z = rsR cr (k + 1) := fun x y z h1 h2 h3 => by rw [h1, h2, h3]; rfl
      have sT : ∀ c : UInt8, anyB cr k c = true -> true = anyB cr (k + 1) c := fun c h => by rw [any_succ hkl, h]; rfl
      have sF : ∀ c : UInt8, anyB cr k c = false -> (byteAt cr (k : Int) == (c.toNat : Int)) = anyB cr (k + 1) c := fun c h => by rw [any_succ hkl, h]; rfl
      have go : ∀ l : List Bool, l = rsR cr (k + 1) -> impP (.agg (.cons (.str fun _ => ca) (.cons (shVe.mk fun _ => cv) (.cons (shVe.mk fun _ => cw) (.cons (.arrB 3 fun _ => l) .nil))))) (.agg (.cons (.str fun _ => ca) (.cons (shVe.mk fun _ => cv) (.cons (shVe.mk fun _ => cw) (.cons (.arrB 3 fun _ => rsR cr (k + 1)) .nil))))) := fun l h => by rw [h]; exact iR
      refine ⟨⟨decide_eq_true (show (k : Int) < (cr.size : Int) by omega), trivial⟩, fun a => ⟨fun b => ⟨fun c => ?_, fun c => ⟨⟨ck, trivial⟩, ?_⟩⟩, fun b => ⟨⟨ck, trivial⟩, fun c => ?_, fun c => ⟨⟨ck, trivial⟩, ?_⟩⟩⟩, fun a => ⟨⟨ck, trivial⟩, fun b => ⟨fun c => ?_, fun c => ⟨⟨ck, trivial⟩, ?_⟩⟩, fun b => ⟨⟨ck, trivial⟩, fun c => ?_, fun c => ⟨⟨ck, trivial⟩, ?_⟩⟩⟩⟩
      all_goals
       refine ihk (k + 1) (fun i => i) (by omega) (by omega) (by rfl) ⟨⟨rfl, hwk⟩, iR, iR, iR, iR, iR, iR, iR, trivial⟩ ⟨iR, iR, ⟨rfl, rfl⟩, go _ ?_, trivial⟩
       refine st _ _ _ ?_ ?_ ?_
       ·first | exact sT 99 a | exact sF 99 a
       ·first | exact sT 109 b | exact sF 109 b
       ·first | exact sT 104 c | exact sF 104 c
     ·
      refine bX Ri0_ok ((.no .any)) _ rfl ?_
      conv => arg 5; cbv
      obtain rfl : k = cr.size := by omega
      refine ⟨⟨decide_eq_false (show ¬ (cr.size : Int) < (cr.size : Int) by omega), trivial⟩, ⟨⟨by show (0 : Int) < 1; decide, by show ((cl.length : Int) + 1) * 72 <= 140737488355328; omega⟩, trivial⟩, ?_⟩
      refine ih (i + 4, cl ++ [((ca, cv, cw, rsR cr cr.size, ()) : CV)]) (fun i => bif beqN i 2 then 4 else i) ⟨by show i + 4 <= W.length + 4; omega, by show (cl ++ [_]).length <= i + 4; rw [List.length_append, List.length_singleton]; omega, hcon⟩ (by show W.length + 4 - (i + 4) < W.length + 4 - i; omega) (by rfl) ⟨⟨rfl, w4⟩, iR, iR, iR, iR, trivial⟩ ⟨iR, ?_, ⟨rfl, rfl⟩, trivial⟩
      exact ⟨⟨rfl, rfl⟩, ⟨rfl, ⟨rfl, rfl⟩, ⟨rfl, rfl⟩, push_imp shC (some 4) 10 cl (ca, cv, cw, rsR cr cr.size, ()), rfl⟩, rfl, rfl, rfl, ⟨rfl, rfl⟩, rfl⟩
    ·exact ⟨by rw [hca]; rfl, hv1, hv2, ⟨rfl, rfl⟩, rfl⟩
   ·
    clear ih
    refine bX Ri0_ok ((.no (.to 41))) _ rfl ?_
    conv => arg 5; cbv
    rw [List.drop_eq_nil_of_le (by omega), rCo_nil, List.append_nil] at hrc
    subst hrc
    refine tree_meet (prA s) (prS E) 2 (by rfl) ?_ ?_
    ·refine ⟨⟨decide_eq_false (show ¬ (i : Int) < (W.length : Int) by omega), trivial⟩, rfl, fun i => i, by rfl, ⟨iR, iR, iR, trivial⟩, ⟨zP, ?_, trivial⟩⟩
     rw [hE]
     exact ⟨⟨rfl, rfl⟩, ⟨rfl, ⟨rfl, rfl⟩, ⟨rfl, rfl⟩, ⟨.inl rfl, rfl, rfl, fun j _ _ => iR⟩, rfl⟩, rfl, rfl, rfl, ⟨rfl, rfl⟩, rfl⟩
    have hEr : E = rawR W 0 := by rw [hE, hnm, hpr, hpo, hCL]; rfl
    clear hE
    have hE := hEr
    clear hEr
    have sz := raw_sz (m := 9223372036854775807) (fun x hx => Nat.le_trans (z1 x hx) (by omega)) (by omega) 0 (w := W)
    rw [<- hE] at sz
    clear hE
    obtain ⟨kk, ⟨nm, pr, po, l, ⟨⟩⟩, nn, c, hs, n, ⟨⟩⟩ := E
    obtain ⟨n1, n2, n3, n4, n5, n6, n7⟩ := sz
    refine bX Ri0_ok (.any) _ rfl ?_
    conv => arg 5; cbv
    have fC : ∀ j : Unit -> Int, shC.fits (shC.mk fun x => (l : List shC.val).getD (j ()).toNat shC.dflt) := fun j => fits_of_mk shC _
    have fH : ∀ j : Unit -> Int, shH.fits (shH.mk fun x => (hs : List shH.val).getD (j ()).toNat shH.dflt) := fun j => fits_of_mk shH _
    have q1 : (rdL shC.rd (fun _ => (l.length : Int)) fun j => shC.mk fun _ => (l : List shC.val).getD (j ()).toNat shC.dflt) = l := rdL_mkL shC l
    have q2 : (rdL shH.rd (fun _ => (hs.length : Int)) fun j => shH.mk fun _ => (hs : List shH.val).getD (j ()).toNat shH.dflt) = hs := rdL_mkL shH hs
    have m1 : (rdL shC.rd (fun _ => (l.length : Int)) fun j => shC.mk fun _ => (l : List shC.val).getD (j ()).toNat shC.dflt).length <= 9223372036854775807 := (congrArg (fun q : List CV => q.length <= 9223372036854775807) q1).mpr n3
    have m2 : (rdL shH.rd (fun _ => (hs.length : Int)) fun j => shH.mk fun _ => (hs : List shH.val).getD (j ()).toNat shH.dflt).length <= 9223372036854775807 := (congrArg (fun q : List HV => q.length <= 9223372036854775807) q2).mpr n4
    have m3 := (congrArg (fun q : List CV => ∀ c ∈ q, (c.1 : ByteArray).size <= 9223372036854775807) q1).mpr n2
    have m4 := (congrArg (fun q : List HV => ∀ c ∈ q, (c.1 : ByteArray).size <= 9223372036854775807) q2).mpr n7
    have eE : shE.rd (shE.mk fun _ => ((kk, (nm, pr, po, l, ()), nn, c, hs, n, ()) : EV)) = ((kk, (nm, pr, po, l, ()), nn, c, hs, n, ()) : EV) := rd_mk shE _
    refine ⟨⟨n1, m3, m1, m2, n5, n6, m4, fC, fH, trivial⟩, fun h => ⟨rfl, ?_⟩, fun h => ⟨⟨?_, fC, fH, trivial⟩, fun t => ⟨rfl, ?_⟩, fun t => ⟨rfl, ?_⟩⟩⟩
    ·have h : (!rightB (kk, (nm, pr, po, l, ()), nn, c, hs, n, ())) = true := (congrArg (fun e => !rightB e) eE).symm.trans h
     have e : R = (e0, false) := by
      rw [hP, if_neg]
      rintro ⟨hr, _⟩
      rw [hr] at h; cases h
     rw [e]
     exact ⟨zP, rfl, rfl⟩
    all_goals
     have h : (!rightB (kk, (nm, pr, po, l, ()), nn, c, hs, n, ())) = false := (congrArg (fun e => !rightB e) eE).symm.trans h
     have h : rightB (kk, (nm, pr, po, l, ()), nn, c, hs, n, ()) = true := by simpa using h
    ·exact (congrArg (fun e => rightB e) eE).trans h
    ·have t : ¬ textE (kk, (nm, pr, po, l, ()), nn, c, hs, n, ()) = s := fun q => absurd ((congrArg textE eE).trans q) (of_decide_eq_true t)
     have e : R = (e0, false) := by
      rw [hP, if_neg]
      rintro ⟨_, q⟩
      exact t q
     rw [e]
     exact ⟨zP, rfl, rfl⟩
    ·have t : textE (kk, (nm, pr, po, l, ()), nn, c, hs, n, ()) = s := (congrArg textE eE).symm.trans (Decidable.not_not.1 (of_decide_eq_false t))
     rw [hP, if_pos ⟨h, t⟩]
     exact ⟨iR, rfl, rfl⟩
  ·exact ⟨⟨rfl, rfl⟩, ⟨(hwd 1).trans hnm.symm, ⟨rfl, (congrArg rnum (hwd 2)).trans hpr.symm⟩, ⟨rfl, (congrArg rnum (hwd 3)).trans hpo.symm⟩, ⟨.inr rfl, rfl, rfl, fun j h0 h1 => absurd h1 (by show ¬ j < 0; have h0 : 0 <= j := h0; omega)⟩, rfl⟩, rfl, rfl, rfl, ⟨rfl, rfl⟩, rfl⟩
 by_cases k2 : K = 2
 ·
  subst k2
  refine bX Ri0_ok ((.no (.no (.yes .any)))) _ rfl ?_
  conv => arg 5; cbv
  refine ⟨⟨rfl, trivial⟩, ⟨rfl, trivial⟩, ⟨rfl, trivial⟩, ⟨by decide, fs, trivial⟩, ?_⟩
  refine run_ownF 1 7 7 47 (shH.mk fun _ => h0) _ _ (by rfl) (by rfl) (by rfl) (by rfl) (by rfl) (by rfl) ?_
  obtain ⟨nm, hnm⟩ : ∃ x, x = wd W 1 := ⟨_, rfl⟩
  obtain ⟨HL, hHL⟩ : ∃ x, x = rCh (W.drop 2) := ⟨_, rfl⟩
  have hE : E = (2, p0, nm, ByteArray.empty, HL, 0, ()) := by rw [hE, hnm, hHL]; rfl
  refine run_inv (ι := Nat × List HV) (fun x => W.length + 3 - x.1) (fun x => x.1 <= W.length + 3 /\ x.2.length <= x.1 /\ x.2 ++ rCh (W.drop x.1) = HL) (fun x => qtA s W x.1) (fun x => qtS nm x.2) 3 (2, []) (fun i => i) (by rfl) (by rfl) ⟨by show 2 <= W.length + 3; omega, Nat.zero_le _, hHL.symm⟩ ?_ ⟨iR, iR, iR, iR, iR, trivial⟩ ⟨iR, ⟨⟨rfl, rfl⟩, ⟨rfl, ⟨rfl, rfl⟩, ⟨rfl, rfl⟩, rfl, rfl⟩, (hwd 1).trans hnm.symm, rfl, ⟨.inr rfl, rfl, rfl, fun j h0 h1 => absurd h1 (by show ¬ j < 0; have h0 : 0 <= j := h0; omega)⟩, ⟨rfl, rfl⟩, rfl⟩, ⟨rfl, rfl⟩, trivial⟩
  rintro ⟨i, cl⟩ ⟨hi, hcl, hrc⟩ ih
  dsimp only at hi hcl hrc
  by_cases hlt : i < W.length
  ·
   refine bX Ri0_ok ((.yes (.yes .any))) _ rfl ?_
   conv => arg 5; cbv
   have hw : ∀ m : Nat, m <= 4 -> IntKind.i64.wrap ((i : Int) + (m : Int)) = ((i + m : Nat) : Int) := fun m hm => by rw [IntWalk.i64_in _ ⟨by omega, by omega⟩]; omega
   have w1 : IntKind.i64.wrap ((i : Int) + 1) = ((i + 1 : Nat) : Int) := hw 1 (by decide)
   have w2 : IntKind.i64.wrap ((i : Int) + 2) = ((i + 2 : Nat) : Int) := hw 2 (by decide)
   have w3 : IntKind.i64.wrap ((i : Int) + 3) = ((i + 3 : Nat) : Int) := hw 3 (by decide)
   have p1 : 0 <= IntKind.i64.wrap ((i : Int) + 1) := by rw [w1]; omega
   have p2 : 0 <= IntKind.i64.wrap ((i : Int) + 2) := by rw [w2]; omega
   have hdr : W.drop i = wd W i :: W.drop (i + 1) := by
    unfold wd
    rw [List.getD_eq_getElem?_getD, List.getElem?_eq_getElem hlt]
    exact List.drop_eq_getElem_cons hlt
   have hwt : ∀ m, wd (W.drop (i + 1)) m = wd W (i + 1 + m) := fun m => by
    unfold wd
    rw [List.getD_eq_getElem?_getD, List.getElem?_drop, List.getD_eq_getElem?_getD]
   obtain ⟨ca, hca⟩ : ∃ x, x = wd W i := ⟨_, rfl⟩
   obtain ⟨cv, hcv⟩ : ∃ x, x = rV (wd W (i + 1)) := ⟨_, rfl⟩
   obtain ⟨cw, hcw⟩ : ∃ x, x = rV (wd W (i + 2)) := ⟨_, rfl⟩
   have hcon : cl ++ [((ca, cv, cw, ()) : HV)] ++ rCh (W.drop (i + 3)) = HL := by
    rw [<- hrc, hdr, rCh_cons, hwt 0, hwt 1, List.drop_drop, List.append_assoc, hca, hcv, hcw]
    rfl
   have hv1 : rV ((rdL Sh.str.rd (fun _ => (W.length : Int)) fun j => Sh.str.mk fun _ => W.getD (j PUnit.unit).toNat Sh.str.dflt).getD (IntKind.i64.wrap ((i : Int) + 1)).toNat ByteArray.empty) = cv := by
    rw [hwd, w1, Int.toNat_natCast, hcv]
   have hv2 : rV ((rdL Sh.str.rd (fun _ => (W.length : Int)) fun j => Sh.str.mk fun _ => W.getD (j PUnit.unit).toNat Sh.str.dflt).getD (IntKind.i64.wrap ((i : Int) + 2)).toNat ByteArray.empty) = cw := by
    rw [hwd, w2, Int.toNat_natCast, hcw]
   refine ⟨⟨decide_eq_true (show (i : Int) < (W.length : Int) by omega), trivial⟩, ⟨rfl, trivial⟩, ⟨⟨Int.natCast_nonneg i, by show (i : Int) < (W.length : Int); omega⟩, p1, fs, zw _, p2, fs, zw _, ⟨by show (0 : Int) < 1; decide, by show ((cl.length : Int) + 1) * 64 <= 140737488355328; omega⟩, (by show drawOK _ _ = true; decide +kernel), trivial⟩, ?_⟩
   refine ih (i + 3, cl ++ [((ca, cv, cw, ()) : HV)]) (fun i => bif beqN i 2 then 3 else i) ⟨by show i + 3 <= W.length + 3; omega, by show (cl ++ [_]).length <= i + 3; rw [List.length_append, List.length_singleton]; omega, hcon⟩ (by show W.length + 3 - (i + 3) < W.length + 3 - i; omega) (by rfl) ⟨⟨rfl, w3⟩, iR, iR, iR, iR, trivial⟩ ⟨iR, ?_, ⟨rfl, rfl⟩, trivial⟩
   refine ⟨⟨rfl, rfl⟩, ⟨rfl, ⟨rfl, rfl⟩, ⟨rfl, rfl⟩, rfl, rfl⟩, rfl, rfl, ?_, ⟨rfl, rfl⟩, rfl⟩
   rw [<- hv1, <- hv2, hca]
   exact push_imp shH (some 3) 7 cl _
  ·
   clear ih
   refine bX Ri0_ok ((.no (.to 41))) _ rfl ?_
   conv => arg 5; cbv
   rw [List.drop_eq_nil_of_le (by omega), rCh_nil, List.append_nil] at hrc
   subst hrc
   refine tree_meet (prA s) (prS E) 2 (by rfl) ?_ ?_
   ·refine ⟨⟨decide_eq_false (show ¬ (i : Int) < (W.length : Int) by omega), trivial⟩, rfl, fun i => i, by rfl, ⟨iR, iR, iR, trivial⟩, ⟨zP, ?_, trivial⟩⟩
    rw [hE]
    exact ⟨⟨rfl, rfl⟩, ⟨rfl, ⟨rfl, rfl⟩, ⟨rfl, rfl⟩, rfl, rfl⟩, rfl, rfl, ⟨.inl rfl, rfl, rfl, fun j _ _ => iR⟩, ⟨rfl, rfl⟩, rfl⟩
   have hEr : E = rawR W 2 := by rw [hE, hnm, hHL]; rfl
   clear hE
   have hE := hEr
   clear hEr
   have sz := raw_sz (m := 9223372036854775807) (fun x hx => Nat.le_trans (z1 x hx) (by omega)) (by omega) 2 (w := W)
   rw [<- hE] at sz
   clear hE
   obtain ⟨kk, ⟨nm, pr, po, l, ⟨⟩⟩, nn, c, hs, n, ⟨⟩⟩ := E
   obtain ⟨n1, n2, n3, n4, n5, n6, n7⟩ := sz
   refine bX Ri0_ok (.any) _ rfl ?_
   conv => arg 5; cbv
   have fC : ∀ j : Unit -> Int, shC.fits (shC.mk fun x => (l : List shC.val).getD (j ()).toNat shC.dflt) := fun j => fits_of_mk shC _
   have fH : ∀ j : Unit -> Int, shH.fits (shH.mk fun x => (hs : List shH.val).getD (j ()).toNat shH.dflt) := fun j => fits_of_mk shH _
   have q1 : (rdL shC.rd (fun _ => (l.length : Int)) fun j => shC.mk fun _ => (l : List shC.val).getD (j ()).toNat shC.dflt) = l := rdL_mkL shC l
   have q2 : (rdL shH.rd (fun _ => (hs.length : Int)) fun j => shH.mk fun _ => (hs : List shH.val).getD (j ()).toNat shH.dflt) = hs := rdL_mkL shH hs
   have m1 : (rdL shC.rd (fun _ => (l.length : Int)) fun j => shC.mk fun _ => (l : List shC.val).getD (j ()).toNat shC.dflt).length <= 9223372036854775807 := (congrArg (fun q : List CV => q.length <= 9223372036854775807) q1).mpr n3
   have m2 : (rdL shH.rd (fun _ => (hs.length : Int)) fun j => shH.mk fun _ => (hs : List shH.val).getD (j ()).toNat shH.dflt).length <= 9223372036854775807 := (congrArg (fun q : List HV => q.length <= 9223372036854775807) q2).mpr n4
   have m3 := (congrArg (fun q : List CV => ∀ c ∈ q, (c.1 : ByteArray).size <= 9223372036854775807) q1).mpr n2
   have m4 := (congrArg (fun q : List HV => ∀ c ∈ q, (c.1 : ByteArray).size <= 9223372036854775807) q2).mpr n7
   have eE : shE.rd (shE.mk fun _ => ((kk, (nm, pr, po, l, ()), nn, c, hs, n, ()) : EV)) = ((kk, (nm, pr, po, l, ()), nn, c, hs, n, ()) : EV) := rd_mk shE _
   refine ⟨⟨n1, m3, m1, m2, n5, n6, m4, fC, fH, trivial⟩, fun h => ⟨rfl, ?_⟩, fun h => ⟨⟨?_, fC, fH, trivial⟩, fun t => ⟨rfl, ?_⟩, fun t => ⟨rfl, ?_⟩⟩⟩
   ·have h : (!rightB (kk, (nm, pr, po, l, ()), nn, c, hs, n, ())) = true := (congrArg (fun e => !rightB e) eE).symm.trans h
    have e : R = (e0, false) := by
     rw [hP, if_neg]
     rintro ⟨hr, _⟩
     rw [hr] at h; cases h
    rw [e]
    exact ⟨zP, rfl, rfl⟩
   all_goals
    have h : (!rightB (kk, (nm, pr, po, l, ()), nn, c, hs, n, ())) = false := (congrArg (fun e => !rightB e) eE).symm.trans h
    have h : rightB (kk, (nm, pr, po, l, ()), nn, c, hs, n, ()) = true := by simpa using h
   ·exact (congrArg (fun e => rightB e) eE).trans h
   ·have t : ¬ textE (kk, (nm, pr, po, l, ()), nn, c, hs, n, ()) = s := fun q => absurd ((congrArg textE eE).trans q) (of_decide_eq_true t)
    have e : R = (e0, false) := by
     rw [hP, if_neg]
     rintro ⟨_, q⟩
     exact t q
    rw [e]
    exact ⟨zP, rfl, rfl⟩
   ·have t : textE (kk, (nm, pr, po, l, ()), nn, c, hs, n, ()) = s := (congrArg textE eE).symm.trans (Decidable.not_not.1 (of_decide_eq_false t))
    rw [hP, if_pos ⟨h, t⟩]
    exact ⟨iR, rfl, rfl⟩
 ·
  refine exploreB_ok (by first | exact ok _ | exact (ok _).at _ | exact (ok _).round _) (mkM_ok Ri0_ok emptyS_ok) (callB_ok emptyB_ok) (u := true) 60 ((.no (.both (.both (.no (.to 41)) (.to 41)) (.no (.both (.to 41) (.both (.to 41) (.both (.to 41) (.both (.to 41) (.both (.to 41) (.both (.to 41) (.to 41))))))))))) _ rfl ?_
  conv => arg 5; cbv
  have b0 : (K == 0) = false := by simpa using k0
  have b2 : (K == 2) = false := by simpa using k2
  have eq : ∀ n : Int, (K == n) = true -> K = n := fun n h => by simpa using h
  have nq : ∀ n : Int, (K == n) = false -> K ≠ n := fun n h => by simpa using h
  have r1 : ∀ n : Int, n = 3 \/ n = 6 \/ n = 7 \/ n = 8 -> (K == n) = true -> impP (.agg (.cons (.int .i64 fun _ => K) (.cons (.agg (.cons (.str fun _ => ByteArray.empty) (.cons (.int .i64 fun _ => 0) (.cons (.int .i64 fun _ => 0) (.cons .nils .nil))))) (.cons (.str fun _ => ByteArray.empty) (.cons (.str fun _ => ByteArray.empty) (.cons .nils (.cons (.int .i64 fun _ => rnum ((rdL Sh.str.rd (fun _ => (W.length : Int)) fun j => Sh.str.mk fun _ => W.getD (j PUnit.unit).toNat Sh.str.dflt).getD (Int.toNat 1) ByteArray.empty)) .nil))))))) (shE.mk fun _ => E) := fun n hn h => by
   have h := eq n h
   refine imE _ _ _ ?_
   rw [hwd, hE]
   unfold rawR
   rw [if_neg k0, if_neg (by omega), if_neg k2, if_neg (by omega), if_pos (by omega)]; rfl
  have r4 : ∀ n : Int, n = 4 \/ n = 5 -> (K == n) = true -> impP (.agg (.cons (.int .i64 fun _ => K) (.cons (.agg (.cons (.str fun _ => ByteArray.empty) (.cons (.int .i64 fun _ => 0) (.cons (.int .i64 fun _ => 0) (.cons .nils .nil))))) (.cons (.str fun _ => (rdL Sh.str.rd (fun _ => (W.length : Int)) fun j => Sh.str.mk fun _ => W.getD (j PUnit.unit).toNat Sh.str.dflt).getD (Int.toNat 1) ByteArray.empty) (.cons (.str fun _ => (rdL Sh.str.rd (fun _ => (W.length : Int)) fun j => Sh.str.mk fun _ => W.getD (j PUnit.unit).toNat Sh.str.dflt).getD (Int.toNat 2) ByteArray.empty) (.cons .nils (.cons (.int .i64 fun _ => rnum ((rdL Sh.str.rd (fun _ => (W.length : Int)) fun j => Sh.str.mk fun _ => W.getD (j PUnit.unit).toNat Sh.str.dflt).getD (Int.toNat 3) ByteArray.empty)) .nil))))))) (shE.mk fun _ => E) := fun n hn h => by
   have h := eq n h
   refine imE _ _ _ ?_
   rw [hwd, hwd, hwd, hE]
   unfold rawR
   rw [if_neg k0, if_neg (by omega), if_neg k2, if_pos (by omega)]; rfl
  have r9 : (K == 1) = true -> impP (.agg (.cons (.int .i64 fun _ => K) (.cons (.agg (.cons (.str fun _ => ByteArray.empty) (.cons (.int .i64 fun _ => 0) (.cons (.int .i64 fun _ => 0) (.cons .nils .nil))))) (.cons (.str fun _ => (rdL Sh.str.rd (fun _ => (W.length : Int)) fun j => Sh.str.mk fun _ => W.getD (j PUnit.unit).toNat Sh.str.dflt).getD (Int.toNat 1) ByteArray.empty) (.cons (.str fun _ => ByteArray.empty) (.cons .nils (.cons (.int .i64 fun _ => 0) .nil))))))) (shE.mk fun _ => E) := fun h => by
   have h := eq 1 h
   refine imE _ _ _ ?_
   rw [hwd, hE]
   unfold rawR
   rw [if_neg k0, if_pos h, h]; rfl
  refine tree_meet (prA s) (prS E) 2 (by rfl) ?_ ?_
  ·refine ⟨⟨b0, trivial⟩, fun a => ⟨⟨by decide, fs, trivial⟩, fun b => ⟨⟨b2, trivial⟩, rfl, fun i => i, by rfl, ⟨iR, iR, iR, trivial⟩, ⟨zP, r9 a, trivial⟩⟩, fun b => ⟨rfl, fun i => i, by rfl, ⟨iR, iR, iR, trivial⟩, ⟨zP, r9 a, trivial⟩⟩⟩, fun a1 => ⟨⟨b2, trivial⟩, fun a => ⟨⟨by decide, fs, by decide, fs, by decide, fs, zw _, trivial⟩, rfl, fun i => i, by rfl, ⟨iR, iR, iR, trivial⟩, ⟨zP, r4 4 (.inl rfl) a, trivial⟩⟩, fun a4 => ⟨fun a => ⟨⟨by decide, fs, by decide, fs, by decide, fs, zw _, trivial⟩, rfl, fun i => i, by rfl, ⟨iR, iR, iR, trivial⟩, ⟨zP, r4 5 (.inr rfl) a, trivial⟩⟩, fun a5 => ⟨fun a => ⟨⟨by decide, fs, zw _, trivial⟩, rfl, fun i => i, by rfl, ⟨iR, iR, iR, trivial⟩, ⟨zP, r1 3 (by decide) a, trivial⟩⟩, fun a3 => ⟨fun a => ⟨⟨by decide, fs, zw _, trivial⟩, rfl, fun i => i, by rfl, ⟨iR, iR, iR, trivial⟩, ⟨zP, r1 6 (by decide) a, trivial⟩⟩, fun a6 => ⟨fun a => ⟨⟨by decide, fs, zw _, trivial⟩, rfl, fun i => i, by rfl, ⟨iR, iR, iR, trivial⟩, ⟨zP, r1 7 (by decide) a, trivial⟩⟩, fun a7 => ⟨fun a => ⟨⟨by decide, fs, zw _, trivial⟩, rfl, fun i => i, by rfl, ⟨iR, iR, iR, trivial⟩, ⟨zP, r1 8 (by decide) a, trivial⟩⟩, fun a8 => ⟨rfl, fun i => i, by rfl, ⟨iR, iR, iR, trivial⟩, ⟨zP, imE _ _ _ ?_, trivial⟩⟩⟩⟩⟩⟩⟩⟩⟩
   have n1 := nq 1 a1
   have n4 := nq 4 a4
   have n5 := nq 5 a5
   have n3 := nq 3 a3
   have n6 := nq 6 a6
   have n7 := nq 7 a7
   have n8 := nq 8 a8
   rw [hE]
   unfold rawR
   rw [if_neg k0, if_neg n1, if_neg k2, if_neg (by omega), if_neg (by omega)]
  have sz := raw_sz (m := 9223372036854775807) (fun x hx => Nat.le_trans (z1 x hx) (by omega)) (by omega) K (w := W)
  rw [<- hE] at sz
  clear hE
  obtain ⟨kk, ⟨nm, pr, po, l, ⟨⟩⟩, nn, c, hs, n, ⟨⟩⟩ := E
  obtain ⟨n1, n2, n3, n4, n5, n6, n7⟩ := sz
  refine bX Ri0_ok (.any) _ rfl ?_
  conv => arg 5; cbv
  have fC : ∀ j : Unit -> Int, shC.fits (shC.mk fun x => (l : List shC.val).getD (j ()).toNat shC.dflt) := fun j => fits_of_mk shC _
  have fH : ∀ j : Unit -> Int, shH.fits (shH.mk fun x => (hs : List shH.val).getD (j ()).toNat shH.dflt) := fun j => fits_of_mk shH _
  have q1 : (rdL shC.rd (fun _ => (l.length : Int)) fun j => shC.mk fun _ => (l : List shC.val).getD (j ()).toNat shC.dflt) = l := rdL_mkL shC l
  have q2 : (rdL shH.rd (fun _ => (hs.length : Int)) fun j => shH.mk fun _ => (hs : List shH.val).getD (j ()).toNat shH.dflt) = hs := rdL_mkL shH hs
  have m1 : (rdL shC.rd (fun _ => (l.length : Int)) fun j => shC.mk fun _ => (l : List shC.val).getD (j ()).toNat shC.dflt).length <= 9223372036854775807 := (congrArg (fun q : List CV => q.length <= 9223372036854775807) q1).mpr n3
  have m2 : (rdL shH.rd (fun _ => (hs.length : Int)) fun j => shH.mk fun _ => (hs : List shH.val).getD (j ()).toNat shH.dflt).length <= 9223372036854775807 := (congrArg (fun q : List HV => q.length <= 9223372036854775807) q2).mpr n4
  have m3 := (congrArg (fun q : List CV => ∀ c ∈ q, (c.1 : ByteArray).size <= 9223372036854775807) q1).mpr n2
  have m4 := (congrArg (fun q : List HV => ∀ c ∈ q, (c.1 : ByteArray).size <= 9223372036854775807) q2).mpr n7
  have eE : shE.rd (shE.mk fun _ => ((kk, (nm, pr, po, l, ()), nn, c, hs, n, ()) : EV)) = ((kk, (nm, pr, po, l, ()), nn, c, hs, n, ()) : EV) := rd_mk shE _
  refine ⟨⟨n1, m3, m1, m2, n5, n6, m4, fC, fH, trivial⟩, fun h => ⟨rfl, ?_⟩, fun h => ⟨⟨?_, fC, fH, trivial⟩, fun t => ⟨rfl, ?_⟩, fun t => ⟨rfl, ?_⟩⟩⟩
  ·have h : (!rightB (kk, (nm, pr, po, l, ()), nn, c, hs, n, ())) = true := (congrArg (fun e => !rightB e) eE).symm.trans h
   have e : R = (e0, false) := by
    rw [hP, if_neg]
    rintro ⟨hr, _⟩
    rw [hr] at h; cases h
   rw [e]
   exact ⟨zP, rfl, rfl⟩
  all_goals
   have h : (!rightB (kk, (nm, pr, po, l, ()), nn, c, hs, n, ())) = false := (congrArg (fun e => !rightB e) eE).symm.trans h
   have h : rightB (kk, (nm, pr, po, l, ()), nn, c, hs, n, ()) = true := by simpa using h
  ·exact (congrArg (fun e => rightB e) eE).trans h
  ·have t : ¬ textE (kk, (nm, pr, po, l, ()), nn, c, hs, n, ()) = s := fun q => absurd ((congrArg textE eE).trans q) (of_decide_eq_true t)
   have e : R = (e0, false) := by
    rw [hP, if_neg]
    rintro ⟨_, q⟩
    exact t q
   rw [e]
   exact ⟨zP, rfl, rfl⟩
  ·have t : textE (kk, (nm, pr, po, l, ()), nn, c, hs, n, ()) = s := (congrArg textE eE).symm.trans (Decidable.not_not.1 (of_decide_eq_false t))
   rw [hP, if_pos ⟨h, t⟩]
   exact ⟨iR, rfl, rfl⟩
noncomputable def Ri1 : Table := addS 15 (.cons .str .nil) (fun s => (.tuple (.cons (shE.mk fun _ => (parseE (s ())).1) (.cons (.bool fun _ => (parseE (s ())).2) .nil)), [fun _ => (s ()).size <= 900000])) Ri0
theorem Ri1_ok : TableOK Tryz.prog G0 Ri1 := addS_ok qf15.callable (fun s h => by
 have := rfeparse_ok (s ()) h.1
 rw [parses] at this
 exact this) Ri0_ok
def qlA (L : List ByteArray) : Nat × List EV -> Env
 | (i, es) => [(15, .int .i64 fun _ => (i : Int)), (14, .int .i64 fun _ => (L.length : Int)), (13, Sh.mkL 1 .str fun _ => L), (6, Sh.mkL 1 .str fun _ => L), (5, .slice (some 0) 9 (fun _ => (es.length : Int)) fun j => shE.mk fun _ => (es : List shE.val).getD (j ()).toNat shE.dflt)]
def qlS : Store := [(0, .own 9 27)]
theorem rflines_ok (s : ByteArray) (hs : s.size <= 900000) : PF 17 (.cons (.str fun _ => s) .nil) (.tuple (.cons (Sh.mkL 9 shE fun _ => (linesE s).1) (.cons (.int .i64 fun _ => (linesE s).2.1) (.cons (.int .i64 fun _ => (linesE s).2.2) .nil)))) := by
 obtain ⟨R, hR⟩ : ∃ R, R = linesE s := ⟨_, rfl⟩
 rw [<- hR]
 refine tX qf17 Ri1_ok (.any) rfl ?_
 conv => arg 5; cbv
 have l1 := sp_len 10 s
 have z1 := sp_size 10 s
 obtain ⟨L, hL⟩ : ∃ L, L = spB 10 s := ⟨_, rfl⟩
 have hR : R = goL L [] := by rw [hR, hL]; rfl
 rw [<- hL] at l1 z1
 refine ⟨⟨⟨by decide, by show s.size < 4294967281; omega⟩, trivial⟩, ?_⟩
 refine run_own (A := _) 5 9 27 (shE.mk fun _ => e0) (by rfl) (by rfl) (by rfl) ?_
 refine run_inv (ι := Nat × List EV) (fun x => L.length - x.1) (fun x => x.1 < L.length /\ x.2.length = x.1 /\ x.1 <= 1000 /\ goL (L.drop x.1) x.2 = R) (qlA L) (fun _ => qlS) 1 (0, []) (fun i => i) (by rfl) (by rfl) ⟨by show 0 < L.length; omega, rfl, Nat.zero_le _, hR.symm⟩ ?_ ⟨iR, by rw [hL]; exact iR, by rw [hL]; exact iR, by rw [hL]; exact iR, ⟨.inr rfl, rfl, rfl, fun j h0 h1 => absurd h1 (by show ¬ j < 0; have h0 : 0 <= j := h0; omega)⟩, trivial⟩ ⟨⟨rfl, rfl⟩, trivial⟩
 rintro ⟨i, es⟩ ⟨hi, hlen, h1000, hgo⟩ ih
 dsimp only at hi hlen h1000 hgo
 have hwL : IntKind.i64.wrap ((L.length : Int) - 1) = ((L.length - 1 : Nat) : Int) := by rw [IntWalk.i64_in _ ⟨by omega, by omega⟩]; omega
 have hwi : IntKind.i64.wrap ((i : Int) + 1) = ((i + 1 : Nat) : Int) := by rw [IntWalk.i64_in _ ⟨by omega, by omega⟩]; omega
 have ci : (0 : Int) <= (i : Int) /\ (i : Int) < (L.length : Int) := by omega
 obtain ⟨B, hB⟩ : ∃ B, B = L.getD i ByteArray.empty := ⟨_, rfl⟩
 have hBm : B ∈ L := by
  rw [hB, List.getD_eq_getElem?_getD, List.getElem?_eq_getElem hi]
  exact List.getElem_mem hi
 have hBs := z1 B hBm
 have hdr : L.drop i = B :: L.drop (i + 1) := by
  rw [hB, List.getD_eq_getElem?_getD, List.getElem?_eq_getElem hi]
  exact List.drop_eq_getElem_cons hi
 have eB : L.getD ((i : Int)).toNat ByteArray.empty = B := hB.symm
 have bad : ∀ (n e : Int), R = ([], n, e) -> impP (.tuple (.cons .nils (.cons (.int .i64 fun _ => n) (.cons (.int .i64 fun _ => e) .nil)))) (.tuple (.cons (Sh.mkL 9 shE fun _ => R.1) (.cons (.int .i64 fun _ => R.2.1) (.cons (.int .i64 fun _ => R.2.2) .nil)))) := fun n e h => by
  rw [h]; exact ⟨rfl, ⟨rfl, rfl⟩, ⟨rfl, rfl⟩, rfl⟩
 by_cases hl : i + 1 = L.length
 ·
  refine bX Ri1_ok ((.yes (.yes (.both .any (.both .any (.yes .any)))))) _ rfl ?_
  conv => arg 5; cbv
  have hdn : L.drop (i + 1) = [] := List.drop_eq_nil_of_le (by omega)
  rw [hdr, hdn] at hgo
  unfold goL at hgo
  have hlast : ((i : Int) == IntKind.i64.wrap ((L.length : Int) - 1)) = true := by
   rw [hwL]
   have : (i : Int) = ((L.length - 1 : Nat) : Int) := by omega
   simpa using this
  refine ⟨⟨decide_eq_true ci.2, trivial⟩, ⟨ci, trivial⟩, ⟨hlast, trivial⟩, fun a => ⟨rfl, ?_⟩, fun a => ⟨fun b => ⟨rfl, bad _ _ ?_⟩, fun b => ⟨⟨hlast, trivial⟩, rfl, ?_⟩⟩⟩
  ·have a : L.getD ((i : Int)).toNat ByteArray.empty = ByteArray.empty := of_decide_eq_true a
   rw [eB] at a
   rw [if_pos a] at hgo
   rw [<- hgo]
   exact ⟨⟨.inl rfl, rfl, rfl, fun j _ _ => iR⟩, ⟨rfl, rfl⟩, ⟨rfl, rfl⟩, rfl⟩
  all_goals
   have a : ¬ L.getD ((i : Int)).toNat ByteArray.empty = ByteArray.empty := of_decide_eq_false a
   rw [eB] at a
   rw [if_neg a] at hgo
  ·have b : (1000 : Int) <= (i : Int) := of_decide_eq_true b
   rw [if_pos (by omega)] at hgo
   exact hgo.symm
  ·have b : ¬ (1000 : Int) <= (i : Int) := of_decide_eq_false b
   rw [if_neg (by omega)] at hgo
   rw [<- hgo, hlen]
   exact ⟨rfl, ⟨rfl, hwi⟩, ⟨rfl, rfl⟩, rfl⟩
 ·
  refine bX Ri1_ok ((.yes (.no (.both .any (.no .any))))) _ rfl ?_
  conv => arg 5; cbv
  have hlast : ((i : Int) == IntKind.i64.wrap ((L.length : Int) - 1)) = false := by
   rw [hwL]
   have : ¬ (i : Int) = ((L.length - 1 : Nat) : Int) := by omega
   simpa using this
  obtain ⟨q, r, hqr⟩ : ∃ q r, L.drop (i + 1) = q :: r := by
   cases h : L.drop (i + 1) with
   | nil =>
     have := List.drop_eq_nil_iff.1 h
     omega
   | cons q r => exact ⟨q, r, rfl⟩
  have hd1 : L.drop (i + 1) = q :: r := hqr
  rw [hdr, hqr] at hgo
  unfold goL at hgo
  refine ⟨⟨decide_eq_true ci.2, trivial⟩, ⟨ci, trivial⟩, ⟨hlast, trivial⟩, fun b => ⟨rfl, bad _ _ ?_⟩, fun b => ⟨⟨hlast, trivial⟩, ⟨by show (L.getD ((i : Int)).toNat ByteArray.empty).size <= 900000; rw [eB]; omega, trivial⟩, fun a => ⟨rfl, ?_⟩, fun a => ⟨⟨⟨by show (0 : Int) < 1; decide, by show ((es.length : Int) + 1) * 128 <= 140737488355328; omega⟩, trivial⟩, ?_⟩⟩⟩
  ·have b : (1000 : Int) <= (i : Int) := of_decide_eq_true b
   rw [if_pos (by omega)] at hgo
   exact hgo.symm
  all_goals
   have b : ¬ (1000 : Int) <= (i : Int) := of_decide_eq_false b
   rw [if_neg (by omega)] at hgo
  ·have a : (!(parseE (L.getD ((i : Int)).toNat ByteArray.empty)).2) = true := a
   rw [eB] at a
   rw [if_neg (fun h => by rw [h] at a; cases a)] at hgo
   rw [<- hgo, hlen]
   exact ⟨rfl, ⟨rfl, hwi⟩, ⟨rfl, rfl⟩, rfl⟩
  ·have a : (!(parseE (L.getD ((i : Int)).toNat ByteArray.empty)).2) = false := a
   rw [eB] at a
   rw [if_pos (by simpa using a)] at hgo
   refine ih (i + 1, es ++ [(parseE B).1]) (fun i => bif beqN i 0 then 2 else i) ⟨by show i + 1 < L.length; omega, by show (es ++ [_]).length = i + 1; rw [List.length_append, List.length_singleton, hlen], by show i + 1 <= 1000; omega, by show goL (L.drop (i + 1)) _ = R; rw [hd1]; exact hgo⟩ (by show L.length - (i + 1) < L.length - i; omega) (by rfl) ⟨⟨rfl, hwi⟩, iR, iR, iR, ?_, trivial⟩ ⟨⟨rfl, rfl⟩, trivial⟩
   rw [<- eB]
   exact push_imp shE (some 2) 9 es (parseE (L.getD ((i : Int)).toNat ByteArray.empty)).1
noncomputable def Ri2 : Table := addS 17 (.cons .str .nil) (fun s => (.tuple (.cons (Sh.mkL 9 shE fun _ => (linesE (s ())).1) (.cons (.int .i64 fun _ => (linesE (s ())).2.1) (.cons (.int .i64 fun _ => (linesE (s ())).2.2) .nil))), [fun _ => (s ()).size <= 900000])) Ri1
theorem Ri2_ok : TableOK Tryz.prog G0 Ri2 := addS_ok qf17.callable (fun s h => rflines_ok (s ()) h.1) Ri1_ok
def fewE (e : EV) : Prop := e.2.1.2.2.2.1.length <= 6 /\ e.2.2.2.2.1.length <= 6
theorem goL_few : ∀ (n : Nat) (w : List ByteArray) (acc : List EV), w.length <= n -> (∀ e ∈ acc, fewE e) -> ∀ e ∈ (goL w acc).1, fewE e
 | 0, w, acc, h, ha => by
   have : w = [] := List.length_eq_zero_iff.1 (by omega)
   subst this
   exact ha
 | n + 1, w, acc, h, ha => by
   match w, h with
   | [], _ => exact ha
   | [p], _ =>
     unfold goL
     split
     · exact ha
     · split <;> exact fun e he => by cases he
   | p :: q :: r, h =>
     unfold goL
     split
     · exact fun e he => by cases he
     · split
       · refine goL_few n (q :: r) _ (by simp only [List.length_cons] at h ⊢; omega) fun e he => ?_
         rcases List.mem_append.1 he with he | he
         · exact ha e he
         · rw [List.mem_singleton.1 he]
           exact parse_few p
       · exact fun e he => by cases he
theorem goL_len : ∀ (n : Nat) (w : List ByteArray) (acc : List EV), w.length <= n -> (goL w acc).1.length <= acc.length + w.length
 | 0, w, acc, h => by
   have : w = [] := List.length_eq_zero_iff.1 (by omega)
   subst this
   exact Nat.le_refl _
 | n + 1, w, acc, h => by
   match w, h with
   | [], _ => exact Nat.le_refl _
   | [p], _ =>
     unfold goL
     split
     · exact Nat.le_add_right _ _
     · split <;> exact Nat.zero_le _
   | p :: q :: r, h =>
     unfold goL
     split
     · exact Nat.zero_le _
     · split
       · have := goL_len n (q :: r) (acc ++ [(parseE p).1]) (by simp only [List.length_cons] at h ⊢; omega)
         simp only [List.length_append, List.length_cons, List.length_nil] at this ⊢
         omega
       · exact Nat.zero_le _
theorem lines_len (t : ByteArray) (h : t.size <= 900000) : (linesE t).1.length <= 1000000 := by
 have h1 := goL_len _ (spB 10 t) [] (Nat.le_refl _)
 have h2 := (sp_len 10 t).2
 have h1 : (linesE t).1.length <= 0 + (spB 10 t).length := h1
 omega
theorem lines_few (t : ByteArray) : ∀ e ∈ (linesE t).1, fewE e := goL_few _ _ _ (Nat.le_refl _) fun e he => by cases he
def bdA (l : List EV) (i : Nat) : Env := [(76, .int .i64 fun _ => (i : Int)), (75, .int .i64 fun _ => (l.length : Int)), (12, Sh.mkL 9 shE fun _ => l), (9, Sh.mkL 9 shE fun _ => l)]
theorem evread_ok (s t : ByteArray) : PF 4 (.cons (.str fun _ => s) (.cons (.str fun _ => t) .nil)) .tt := by
 have hf := parse_few s
 have hg := lines_few t
 refine tX qf4 Ri2_ok ((.no (.both .any (.both .any (.no (.no (.no (.no (.no .any))))))))) rfl ?_
 conv => arg 5; cbv
 have hm1 : ∀ e : EV, e.2.1.2.2.2.1.length <= 6 -> (rdL shC.rd (fun _ => ((e.2.1.2.2.2.1.length : Nat) : Int)) fun j => shC.mk fun _ => (e.2.1.2.2.2.1 : List shC.val).getD (j ()).toNat shC.dflt).length <= 9223372036854775807 := fun e h => by
  rw [rdL_len]; show ((e.2.1.2.2.2.1.length : Nat) : Int).toNat <= _; rw [Int.toNat_natCast]; omega
 have hm2 : ∀ e : EV, e.2.2.2.2.1.length <= 6 -> (rdL shH.rd (fun _ => ((e.2.2.2.2.1.length : Nat) : Int)) fun j => shH.mk fun _ => (e.2.2.2.2.1 : List shH.val).getD (j ()).toNat shH.dflt).length <= 9223372036854775807 := fun e h => by
  rw [rdL_len]; show ((e.2.2.2.2.1.length : Nat) : Int).toNat <= _; rw [Int.toNat_natCast]; omega
 refine ⟨⟨rfl, trivial⟩, fun a => ⟨rfl, rfl⟩, fun a => ⟨fun b => ⟨rfl, rfl⟩, fun b => ?_⟩⟩
 have a : ¬ (600 : Int) < (s.size : Int) := of_decide_eq_false a
 have b : ¬ (4000 : Int) < (t.size : Int) := of_decide_eq_false b
 refine ⟨⟨by show s.size <= 900000; omega, by show s.size <= 900000; omega, by show t.size <= 900000; omega, by show t.size <= 900000; omega, trivial⟩, ⟨by show (!(parseE s).2 == (parseE s).2) = false; simp, trivial⟩, ⟨hm1 _ hf.1, hm2 _ hf.2, fun j => fits_of_mk shC _, fun j => fits_of_mk shH _, fun j => fits_of_mk shC _, fun j => fits_of_mk shH _, trivial⟩, ⟨?_, trivial⟩, ⟨by show ((linesE t).2.1 != (linesE t).2.1) = false; simp, trivial⟩, ⟨by show ((linesE t).2.2 != (linesE t).2.2) = false; simp, trivial⟩, ⟨by show (((linesE t).1.length : Int) != ((linesE t).1.length : Int)) = false; simp, trivial⟩, ?_⟩
 ·have eE : shE.rd (shE.mk fun _ => (parseE s).1) = (parseE s).1 := rd_mk shE _
  refine (congrArg (fun e => !evB e e) eE).trans ?_
  rw [evB_iff.2 rfl]; rfl
 obtain ⟨l, hl⟩ : ∃ l, l = (linesE t).1 := ⟨_, rfl⟩
 rw [<- hl] at hg
 refine run_inv (ι := Nat) (fun i => l.length - i) (fun i => i <= l.length) (bdA l) (fun _ => []) 0 0 (fun i => i) (by rfl) (by rfl) (Nat.zero_le _) ?_ ⟨iR, by rw [hl]; exact iR, by rw [hl]; exact iR, by rw [hl]; exact iR, trivial⟩ trivial
 intro i hi ih
 refine bX Ri2_ok (.any) _ rfl ?_
 conv => arg 5; cbv
 refine ⟨fun h => ?_, fun h => ⟨rfl, rfl⟩⟩
 have h : (i : Int) < (l.length : Int) := of_decide_eq_true h
 have hi2 : i < l.length := by omega
 have hw : IntKind.i64.wrap ((i : Int) + 1) = ((i + 1 : Nat) : Int) := by
  have : l.length <= 1000000 := by rw [hl]; exact lines_len t (by omega)
  rw [IntWalk.i64_in _ ⟨by omega, by omega⟩]; omega
 have hm : l.getD i e0 ∈ l := by
  rw [List.getD_eq_getElem?_getD, List.getElem?_eq_getElem hi2]; exact List.getElem_mem hi2
 have eg : List.getD l ((i : Int)).toNat (Sh.dflt shE) = l.getD i e0 := by
  rw [Int.toNat_natCast]
  exact getD_any (α := EV) _ _ hi2
 have eg2 : ∀ (P : EV -> Prop), P (l.getD i e0) -> P (List.getD l ((i : Int)).toNat (Sh.dflt shE)) := fun P h => eg ▸ h
 have eE : shE.rd (shE.mk fun _ => List.getD l ((i : Int)).toNat (Sh.dflt shE)) = l.getD i e0 := (rd_mk shE _).trans eg
 have c1 := hm1 _ (eg2 (fun x => x.2.1.2.2.2.1.length <= 6) (hg _ hm).1)
 have c2 := hm2 _ (eg2 (fun x => x.2.2.2.2.1.length <= 6) (hg _ hm).2)
 have cr : (0 : Int) <= (i : Int) /\ (i : Int) < (l.length : Int) := ⟨Int.natCast_nonneg i, h⟩
 refine ⟨⟨cr, cr, c1, c2, fun j => fits_of_mk shC _, fun j => fits_of_mk shH _, fun j => fits_of_mk shC _, fun j => fits_of_mk shH _, (by show drawOK _ _ = true; decide +kernel), trivial⟩, fun q => ?_, fun q => ?_⟩
 ·have q : (!evB (l.getD i e0) (l.getD i e0)) = true := (congrArg (fun e => !evB e e) eE).symm.trans q
  rw [evB_iff.2 rfl] at q
  cases q
 ·exact ih (i + 1) (fun i => i) (by show i + 1 <= l.length; omega) (by show l.length - (i + 1) < l.length - i; omega) (by rfl) ⟨⟨rfl, hw⟩, iR, iR, iR, trivial⟩ trivial
end Go.Proofs.YtpbjcabecalpaaaGreatDoor
namespace Go.Abs
theorem PFun.imp {P : Program} {G : Gs} {f : Nat} {args r r' : PV} (h : PFun P G f args r) (hi : impP r r') : PFun P G f args r' := by
 refine ⟨h.1, fun M w vs hG hI hr => (h.2 M w vs hG hI hr).mono ?_⟩
 rintro e w' ⟨M', ρ', v, g', rfl, h1, h2⟩
 exact ⟨M', ρ', v, g', rfl, h1, impP_ok _ _ hi h2⟩
end Go.Abs
namespace Go.Proofs.YtpbjcabecalpaaaGreatDoor
open Go Go.Abs Go.Proofs Go.ChangeShapes Go.WideShapes Go.ChangeAt Go.RowKit
theorem own : ownKnob Tryz.prog.godebug = none := by kernel_rfl
theorem laidOut : laidOutB Tryz.prog = true := by kernel_rfl
def rowLaid : List (String × DataW Unit) := Rows.eventsBackRow.laid
theorem star : "*" ++ "errors.errorString" = "*errors.errorString" := by decide
theorem facts_row {W : World} (hL : laidMetH Tryz.prog rowLaid W) (hS : W.ShapedOpen Tryz.prog) : GOK G0 (memOf W) := by
 have hL : laidMet Tryz.prog rowLaid W := hL
 refine ⟨fun g => ⟨rfl, _, rfl⟩, fun g hg => ?_, fun g hg => ?_, fun nm hn g hg => ?_⟩
 ·obtain ⟨m, hm⟩ := Tryz.laysM219.s1_3 W hS
  obtain rfl : g = 0 := Option.some.inj (hg.symm.trans (show Tryz.prog.globalNamed "internal/bytealg.MaxLen" = some 0 by kernel_rfl))
  have hm : W.cell? ⟨0, 0, none⟩ = some (.int .i64 m) := hm
  unfold World.cell? at hm
  cases ho : W.heap[0]? with
  | none => rw [show (⟨0, 0, none⟩ : Addr).block = 0 from rfl, ho] at hm; cases hm
  | some o =>
    rw [show (⟨0, 0, none⟩ : Addr).block = 0 from rfl, ho] at hm
    cases o with
    | cells cs t fr => exact ⟨cs, t, fr, m, ho, by simpa using hm⟩
    | _ => cases hm
 ·obtain rfl : g = 3 := Option.some.inj (hg.symm.trans (show Tryz.prog.globalNamed "internal/strconv.uint64pow10" = some 3 by kernel_rfl))
  have hT : Lib.TabIs Tryz.prog W "internal/strconv.uint64pow10" .u64 Lib.pow10Tab :=
   Lib.tabIs_of_head (rest := rowLaid.tail.tail.tail) hg (t := 81) (e := 77) (n := 20) (by kernel_rfl) (by kernel_rfl) (by kernel_rfl) (by kernel_rfl) (by kernel_rfl) (laidMet.tail (laidMet.tail hL))
  unfold Lib.TabIs World.var? at hT
  rw [hg] at hT
  have hT : (match W.heap[3]? with
   | some (Obj.cells cs _ _) => some cs
   | _ => none) = some (Lib.pow10Tab.map fun z => Value.int .u64 z).toArray := hT
  cases ho : W.heap[3]? with
  | none => rw [ho] at hT; cases hT
  | some o =>
    rw [ho] at hT
    cases o with
    | cells cs t fr => exact ⟨t, fr, ho.trans (by rw [Option.some.inj hT])⟩
    | _ => cases hT
 ·have row : ∀ u, Tryz.prog.typeName? 3 u = some "*errors.errorString" -> u = 210 := fun u h => typeName_ptr_named (P := Tryz.prog) (nm := "errors.errorString") (by rw [star]; kernel_rfl) (by kernel_rfl) (by decide) u (by rw [star]; exact h)
  have hv : ∃ tp p, W.var? Tryz.prog nm = some #[.iface tp p] := by
   have h5 := laidMet.tail (laidMet.tail (laidMet.tail (laidMet.tail hL)))
   rcases hn with rfl | rfl
   ·obtain ⟨a, s, h, _⟩ := laid_sentinel (g := 1) (laidMet.tail h5) (by kernel_rfl) (by kernel_rfl) Tryz.underlying98 row Tryz.underlying210 Tryz.underlying212 rfl rfl Tryz.underlying9 (by kernel_rfl) (by kernel_rfl)
    exact ⟨_, _, h⟩
   ·obtain ⟨a, s, h, _⟩ := laid_sentinel (g := 2) h5 (by kernel_rfl) (by kernel_rfl) Tryz.underlying98 row Tryz.underlying210 Tryz.underlying212 rfl rfl Tryz.underlying9 (by kernel_rfl) (by kernel_rfl)
    exact ⟨_, _, h⟩
  obtain ⟨tp, p, hv⟩ := hv
  unfold World.var? at hv
  rw [hg] at hv
  have hv : (match W.heap[g]? with
   | some (Obj.cells cs _ _) => some cs
   | _ => none) = some #[.iface tp p] := hv
  cases ho : W.heap[g]? with
  | none => rw [ho] at hv; cases hv
  | some o =>
    rw [ho] at hv
    cases o with
    | cells cs t fr => exact ⟨tp, p, t, fr, ho.trans (by rw [Option.some.inj hv])⟩
    | _ => cases hv
theorem ts_str : TS Tryz.prog .str (.inl 9) := (show Tryz.prog.underlying _ = _ by kernel_rfl)
noncomputable def laidWorld (os : Os) : World := World.laidAll Tryz.prog os rowLaid
theorem laid_met (os : Os) (args : Array Value) : laidMet Tryz.prog rowLaid ((laidWorld os).forCall (fun _ _ => 0) ⟨#[], args, []⟩).memory :=
 laidMet_laidAll args (by kernel_rfl) (by kernel_rfl)
end Go.Proofs.YtpbjcabecalpaaaGreatDoor
