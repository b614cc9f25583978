/- A part of what the walks of this claim stand on. -/
import Derived.Test.YtpbjcabecalpaaaGreatDoorWak
set_option maxRecDepth 2000
set_option linter.unusedVariables false
set_option linter.unusedSimpArgs false
namespace Go.Proofs.YtpbjcabecalpaaaGreatDoor
open Go Go.Abs Go.Proofs
theorem vtxt_size (v : VV) : (vtxt v).size ≤ 132 := by
  unfold vtxt
  split
  · rename_i hr
    have hr := vRight_iff.1 hr
    rw [← size_toB]
    show (vText v.1.toNat v.2.1.toNat v.2.2.1.toNat).length ≤ 132
    unfold vText
    split
    · decide
    · have hx : ∀ x ∈ (vParts v.1.toNat v.2.1.toNat v.2.2.1.toNat).map toB, x.size ≤ 43 := by
        intro x hx
        obtain ⟨y, hy, rfl⟩ := List.mem_map.1 hx
        have k1 : ∀ (n t : List UInt8), n.length ≤ 9 → t.length ≤ 30 → (toB (n ++ 61 :: t)).size ≤ 43 := fun n t h1 h2 => by
          rw [← size_toB]; show (n ++ 61 :: t).length ≤ 43; rw [List.length_append, List.length_cons]; omega
        have a1 : (atext (v.1.toNat * 1000000)).length ≤ 30 := by
          have := (tx_len _ (w_most (n := v.1) (by omega)).1).1
          rw [← size_toB] at this; exact this
        have a2 : (btext (v.2.1.toNat * 1000000000)).length ≤ 30 := by
          have := (tx_len _ (w_most (n := v.2.1) (by omega)).2).2
          rw [← size_toB] at this; exact this
        have a3 : (btext (v.2.2.1.toNat * 1000000000)).length ≤ 30 := by
          have := (tx_len _ (w_most (n := v.2.2.1) (by omega)).2).2
          rw [← size_toB] at this; exact this
        unfold vParts at hy
        rcases List.mem_append.1 hy with hy | hy
        · split at hy
          · rw [List.mem_singleton] at hy; subst hy; exact k1 _ _ (by decide) a1
          · cases hy
        · rcases List.mem_append.1 hy with hy | hy
          · split at hy
            · rw [List.mem_singleton] at hy; subst hy; exact k1 _ _ (by decide) a2
            · cases hy
          · split at hy
            · rw [List.mem_singleton] at hy; subst hy; exact k1 _ _ (by decide) a3
            · cases hy
      have hj := joinB_size (sep := ⟨#[44]⟩) hx
      have e : (joinB ((vParts v.1.toNat v.2.1.toNat v.2.2.1.toNat).map toB) ⟨#[44]⟩).data.toList = Lib.join (vParts v.1.toNat v.2.1.toNat v.2.2.1.toNat) [44] := by
        unfold joinB
        rw [List.map_map, show ((fun x : ByteArray => x.data.toList) ∘ toB) = id from rfl, List.map_id]
      rw [← size_toB, e, List.length_map] at hj
      have hp : (vParts v.1.toNat v.2.1.toNat v.2.2.1.toNat).length ≤ 3 := by
        unfold vParts
        rw [List.length_append, List.length_append]
        split <;> split <;> split <;> simp
      have s4 : (⟨#[44]⟩ : ByteArray).size = 1 := rfl
      rw [s4] at hj
      have := Nat.mul_le_mul_right 44 hp
      omega
  · decide
theorem itz_size {n : Int} (h0 : -9223372036854775808 ≤ n) (h1 : n ≤ 9223372036854775807) : (itz n).size ≤ 21 := by
  rw [← size_toB]; exact Lib.itoa_length_le n h0 h1
theorem rsB_size (l : List Bool) : (rsB l).size ≤ 3 := by
  unfold rsB
  generalize l.getD 0 false = a
  generalize l.getD 1 false = b
  generalize l.getD 2 false = c
  revert a b c; decide
theorem name_size {s : ByteArray} (h : nameB s = true) : s.size ≤ 16 := (nameB_iff.1 h).2.1
theorem words_size (k : Nat) : (wordsL.getD k ByteArray.empty).size ≤ 6 := by
  by_cases hk : k < 10
  · have : ∀ j, j < 10 → (wordsL.getD j ByteArray.empty).size ≤ 6 := by decide
    exact this k hk
  · have e : wordsL.getD k ByteArray.empty = ByteArray.empty := by rw [List.getD_eq_getElem?_getD, List.getElem?_eq_none (by show 10 ≤ k; omega)]; rfl
    rw [e]; decide
theorem flat_len {α β : Type} {f : α → List β} {k : Nat} (h : ∀ x, (f x).length = k) : ∀ (l : List α), (l.flatMap f).length = l.length * k
  | [] => by simp
  | x :: l => by rw [List.flatMap_cons, List.length_append, h x, flat_len h l, List.length_cons, Nat.add_mul]; omega
theorem parts_size {e : EV} (h : rightB e = true) : (partsE e).length ≤ 28 ∧ ∀ x ∈ partsE e, x.size ≤ 132 := by
  have cw : ∀ x : CV, (conW x).length = 4 := fun _ => rfl
  have hw : ∀ x : HV, (chW x).length = 3 := fun _ => rfl
  have kk : ∀ t, (t.length ≤ 27 ∧ ∀ x ∈ t, x.size ≤ 132) → ∀ k, (wordsL.getD k ByteArray.empty :: t).length ≤ 28 ∧ ∀ x ∈ wordsL.getD k ByteArray.empty :: t, x.size ≤ 132 := fun t ht k => ⟨by rw [List.length_cons]; omega, fun x hx => by
    rcases List.mem_cons.1 hx with rfl | hx
    · exact Nat.le_trans (words_size k) (by decide)
    · exact ht.2 x hx⟩
  refine kk _ ?_ _
  rcases right_kinds h with ⟨p, hp, rfl⟩ | ⟨s, hs, rfl⟩ | ⟨s, hs, h1, _, l2, h2, rfl⟩ | ⟨k, s, c, n, hk, h1, h2, h3, rfl⟩ | ⟨k, n, hk, h3, rfl⟩ | rfl
  · obtain ⟨p1, p2, p3, p4, p5⟩ := pod_parts hp
    show (p.1 :: itz p.2.1 :: itz p.2.2.1 :: p.2.2.2.1.flatMap conW).length ≤ 27 ∧ ∀ x ∈ p.1 :: itz p.2.1 :: itz p.2.2.1 :: p.2.2.2.1.flatMap conW, x.size ≤ 132
    refine ⟨?_, fun x hx => ?_⟩
    · rw [List.length_cons, List.length_cons, List.length_cons, flat_len cw]; omega
    · simp only [List.mem_cons, List.mem_flatMap] at hx
      rcases hx with rfl | rfl | rfl | ⟨c, hc, hx⟩
      · exact Nat.le_trans (name_size p1) (by decide)
      · exact Nat.le_trans (itz_size (by omega) (by omega)) (by decide)
      · exact Nat.le_trans (itz_size (by omega) (by omega)) (by decide)
      · have := contB_parts (p5 c hc)
        simp only [conW, List.mem_cons, List.not_mem_nil, or_false] at hx
        rcases hx with rfl | rfl | rfl | rfl
        · exact Nat.le_trans (name_size this.1) (by decide)
        · exact vtxt_size _
        · exact vtxt_size _
        · exact Nat.le_trans (rsB_size _) (by decide)
  · show [s].length ≤ 27 ∧ ∀ x ∈ [s], x.size ≤ 132
    exact ⟨by show 1 ≤ 27; decide, fun x hx => by rw [List.mem_singleton] at hx; subst hx; exact Nat.le_trans (name_size hs) (by decide)⟩
  · show (s :: hs.flatMap chW).length ≤ 27 ∧ ∀ x ∈ s :: hs.flatMap chW, x.size ≤ 132
    refine ⟨by rw [List.length_cons, flat_len hw]; omega, fun x hx => ?_⟩
    simp only [List.mem_cons, List.mem_flatMap] at hx
    rcases hx with rfl | ⟨c, hc, hx⟩
    · exact Nat.le_trans (name_size h1) (by decide)
    · have := chB_parts (h2 c hc)
      simp only [chW, List.mem_cons, List.not_mem_nil, or_false] at hx
      rcases hx with rfl | rfl | rfl
      · exact Nat.le_trans (name_size this.1) (by decide)
      · exact vtxt_size _
      · exact vtxt_size _
  · obtain ⟨n1, n2⟩ := numB_iff.1 h3
    have e : tailE (k, p0, s, c, [], n, ()) = [s, c, itz n] := by rcases hk with rfl | rfl <;> rfl
    rw [e]
    refine ⟨by show 3 ≤ 27; decide, fun x hx => ?_⟩
    simp only [List.mem_cons, List.not_mem_nil, or_false] at hx
    rcases hx with rfl | rfl | rfl
    · exact Nat.le_trans (name_size h1) (by decide)
    · exact Nat.le_trans (name_size h2) (by decide)
    · exact Nat.le_trans (itz_size (by omega) (by omega)) (by decide)
  · obtain ⟨n1, n2⟩ := numB_iff.1 h3
    have e : tailE (k, p0, ByteArray.empty, ByteArray.empty, [], n, ()) = [itz n] := by rcases hk with rfl | rfl | rfl | rfl <;> rfl
    rw [e]
    refine ⟨by show 1 ≤ 27; decide, fun x hx => ?_⟩
    rw [List.mem_singleton] at hx; subst hx
    exact Nat.le_trans (itz_size (by omega) (by omega)) (by decide)
  · show [].length ≤ 27 ∧ ∀ x ∈ ([] : List ByteArray), x.size ≤ 132
    exact ⟨by decide, fun x hx => by cases hx⟩
theorem join_short {e : EV} (h : rightB e = true) : (joinB (partsE e) ⟨#[32]⟩).size ≤ 4000 := by
  obtain ⟨h1, h2⟩ := parts_size h
  have hj := joinB_size (sep := ⟨#[32]⟩) h2
  have s4 : (⟨#[32]⟩ : ByteArray).size = 1 := rfl
  rw [s4] at hj
  have := Nat.mul_le_mul_right 133 h1
  omega
theorem text_short (e : EV) : (textE e).size ≤ 4000 := by
  unfold textE
  split
  · rename_i h; exact join_short h
  · decide
theorem evparts_ok (e : EV) (hr : rightB e = true) : PF 32 (.cons (shE.mk fun _ => e) .nil) (Sh.mkL 1 .str fun _ => partsE e) := by
  rcases right_kinds hr with ⟨p, hp, rfl⟩ | ⟨s, hs, rfl⟩ | ⟨s, hs, h1, _, l2, h2, rfl⟩ | ⟨k, s, c, n, hk, h1, h2, h3, rfl⟩ | ⟨k, n, hk, h3, rfl⟩ | rfl
  · obtain ⟨p1, p2, p3, p4, p5⟩ := pod_parts hp
    exact parts0_ok p (by omega) (by omega) (by omega)
  · exact parts1_ok s
  · exact parts2_ok s hs (by omega)
  · obtain ⟨n1, n2⟩ := numB_iff.1 h3
    rcases hk with rfl | rfl
    · exact parts4_ok s c n (by omega)
    · exact parts5_ok s c n (by omega)
  · obtain ⟨n1, n2⟩ := numB_iff.1 h3
    rcases hk with rfl | rfl | rfl | rfl
    · exact parts3_ok n (by omega)
    · exact parts6_ok n (by omega)
    · exact parts7_ok n (by omega)
    · exact parts8_ok n (by omega)
  · exact parts9_ok
noncomputable def Fr3 : Table := addS 31 (.cons (.slice 1 .str) (.cons .str .nil)) (fun l s => (.str fun _ => joinB (l ()) (s ()), [fun _ => List.length (α := ByteArray) (l ()) ≤ 140737488355328 ∧ (joinB (l ()) (s ())).size ≤ 140737488355328])) (addS 32 (.cons shE .nil) (fun k nm pr po l s c hs n => (Sh.mkL 1 .str fun _ => partsE (k (), (nm (), pr (), po (), l (), ()), s (), c (), hs (), n (), ()), [fun _ => rightB (k (), (nm (), pr (), po (), l (), ()), s (), c (), hs (), n (), ()) = true])) Fr2)
theorem Fr3_ok : TableOK Tryz.prog G0 Fr3 := addS_ok (⟨Tryz.func31, rfl, rfl, rfl, ⟨rfl, rfl⟩, ok _⟩ : FN 31 Tryz.f31).callable (fun l s h => join_ok (l ()) (s ()) h.1.1 h.1.2) (addS_ok (⟨Tryz.func32, rfl, rfl, rfl, ⟨rfl, rfl⟩, ok _⟩ : FN 32 Tryz.f32).callable (fun k nm pr po l s c hs n h => evparts_ok (k (), (nm (), pr (), po (), l (), ()), s (), c (), hs (), n (), ()) h.1) Fr2_ok)
theorem evtext_ok (e : EV) (hl : e.2.1.2.2.2.1.length ≤ 9223372036854775807) (hh : e.2.2.2.2.1.length ≤ 9223372036854775807) : PF 13 (.cons (shE.mk fun _ => e) .nil) (.str fun _ => textE e) := by
  obtain ⟨k, ⟨nm, pr, po, l, ⟨⟩⟩, s, c, hs, n, ⟨⟩⟩ := e
  refine (⟨Tryz.func13, rfl, rfl, rfl, ⟨rfl, rfl⟩, ok _⟩ : FN 13 Tryz.f13).treeB (mkM_ok Fr3_ok emptyS_ok) (callB_ok emptyB_ok) false 60 (.any) rfl ?_
  conv => arg 5; cbv
  have fC : ∀ j : Unit → Int, shC.fits (shC.mk fun x => (l : List shC.val).getD (j ()).toNat shC.dflt) := fun j => fits_of_mk shC _
  have fH : ∀ j : Unit → Int, shH.fits (shH.mk fun x => (hs : List shH.val).getD (j ()).toNat shH.dflt) := fun j => fits_of_mk shH _
  have l1 : (rdL shC.rd (fun _ => (l.length : Int)) fun j => shC.mk fun _ => (l : List shC.val).getD (j ()).toNat shC.dflt).length ≤ 9223372036854775807 := by
    rw [rdL_len]; show ((l.length : Nat) : Int).toNat ≤ _; rw [Int.toNat_natCast]; exact hl
  have l2 : (rdL shH.rd (fun _ => (hs.length : Int)) fun j => shH.mk fun _ => (hs : List shH.val).getD (j ()).toNat shH.dflt).length ≤ 9223372036854775807 := by
    rw [rdL_len]; show ((hs.length : Nat) : Int).toNat ≤ _; rw [Int.toNat_natCast]; exact hh
  have eE : shE.rd (shE.mk fun _ => ((k, (nm, pr, po, l, ()), s, c, hs, n, ()) : EV)) = ((k, (nm, pr, po, l, ()), s, c, hs, n, ()) : EV) := rd_mk shE _
  have eP : rdL Sh.str.rd (fun _ => ((partsE (shE.rd (shE.mk fun _ => ((k, (nm, pr, po, l, ()), s, c, hs, n, ()) : EV)))).length : Int)) (fun j => Sh.str.mk fun _ => (partsE (shE.rd (shE.mk fun _ => ((k, (nm, pr, po, l, ()), s, c, hs, n, ()) : EV)))).getD (j ()).toNat ByteArray.empty) = partsE (k, (nm, pr, po, l, ()), s, c, hs, n, ()) := (rdL_mkL .str _).trans (congrArg partsE eE)
  refine ⟨⟨l1, l2, fC, fH, trivial⟩, fun h => ⟨rfl, ?_⟩, fun h => ?_⟩
  · have h : (!rightB (k, (nm, pr, po, l, ()), s, c, hs, n, ())) = true := (congrArg (fun e => !rightB e) eE).symm.trans h
    show (⟨#[]⟩ : ByteArray) = textE _
    unfold textE
    rw [if_neg (by simpa using h)]
  · have h : (!rightB (k, (nm, pr, po, l, ()), s, c, hs, n, ())) = false := (congrArg (fun e => !rightB e) eE).symm.trans h
    have h : rightB (k, (nm, pr, po, l, ()), s, c, hs, n, ()) = true := by simpa using h
    have z1 := (parts_size h).1
    have z2 := join_short h
    refine ⟨⟨(congrArg rightB eE).trans h, fC, fH, ⟨?_, ?_⟩, fun j => trivial, trivial⟩, rfl, ?_⟩
    · exact Nat.le_trans (Nat.le_of_eq (congrArg List.length eP)) (by omega)
    · exact Nat.le_trans (Nat.le_of_eq (congrArg (fun l => (joinB l ⟨#[32]⟩).size) eP)) (by omega)
    · refine (congrArg (fun l => joinB l ⟨#[32]⟩) eP).trans ?_
      unfold textE
      rw [if_pos h]
noncomputable def Fr4 : Table := addS 13 (.cons shE .nil) (fun k nm pr po l s c hs n => (.str fun _ => textE (k (), (nm (), pr (), po (), l (), ()), s (), c (), hs (), n (), ()), [fun _ => List.length (α := CV) (l ()) ≤ 9223372036854775807, fun _ => List.length (α := HV) (hs ()) ≤ 9223372036854775807])) Fr3
theorem Fr4_ok : TableOK Tryz.prog G0 Fr4 := addS_ok (⟨Tryz.func13, rfl, rfl, rfl, ⟨rfl, rfl⟩, ok _⟩ : FN 13 Tryz.f13).callable (fun k nm pr po l s c hs n h => evtext_ok (k (), (nm (), pr (), po (), l (), ()), s (), c (), hs (), n (), ()) h.1 h.2.1) Fr3_ok
end Go.Proofs.YtpbjcabecalpaaaGreatDoor
namespace Go.Proofs.YtpbjcabecalpaaaGreatDoor
open Go Go.Abs Go.Proofs
theorem index_ok (l : List ByteArray) (x : ByteArray) (hl : l.length ≤ 9223372036854775807) : PF 34 (.cons (Sh.mkL 1 .str fun _ => l) (.cons (.str fun _ => x) .nil)) (.int .i64 fun _ => Lib.idxOfS l x) := by
  refine PFun.of_below (⟨Tryz.func34, rfl, rfl, rfl, ⟨rfl, rfl⟩, ok _⟩ : FN 34 Tryz.f34).callable fun M w vs hG hI hr => ?_
  rcases hr with ⟨h, _⟩ | ⟨_, v, ws, rfl, hv, hn⟩
  · cases h
  rcases hn with ⟨h, _⟩ | ⟨_, v2, ws, rfl, hv2, hn⟩
  · cases h
  obtain ⟨_, rfl⟩ := hn
  obtain ⟨_, hv2⟩ := hv2
  obtain rfl : v2 = .string x := by simpa using hv2
  obtain ⟨a, n, cap, ⟨_, hv⟩, hn, hnc, hcap, _, hrow⟩ := hv
  obtain rfl : v = .slice a n cap := by simpa using hv
  obtain rfl : n = l.length := by have : (n : Int) = (l.length : Int) := hn; omega
  rcases Nat.eq_zero_or_pos l.length with h0 | h0
  · have e : l = [] := List.length_eq_zero_iff.1 h0
    subst e
    refine (Tryz.slices_Index_string_empty a cap x w).mono ?_
    rintro e w' ⟨rfl, rfl⟩
    exact ⟨_, rfl, RowKit.Below.refl _ _, by simp, rfl⟩
  · obtain ⟨b, base, rfl, hr⟩ := hrow h0
    refine (Tryz.slices_Index_string b base l.length cap l x w (Nat.le_refl _) hl (fun j hj => ?_)).mono ?_
    · obtain ⟨cs, c1, ⟨_, c2⟩, c3⟩ := hr j hj
      have := c3 0 (by omega)
      rw [Nat.mul_one, Nat.add_zero, c2] at this
      exact hI.mem _ _ _ this
    · rintro e w' ⟨rfl, rfl⟩
      exact ⟨_, rfl, RowKit.Below.refl _ _, by simp, by simp⟩
theorem split1_ok (s : ByteArray) (c : UInt8) (hs : s.size < 4294967281) : PF 33 (.cons (.str fun _ => s) (.cons (.str fun _ => (⟨#[c]⟩ : ByteArray)) .nil)) (Sh.mkL 1 .str fun _ => spB c s) := by
  have := split_ok s ⟨#[c]⟩ hs (Nat.le_refl 1)
  rw [split_spB] at this
  exact this
noncomputable def Fr5 : Table := addS 33 (.cons .str (.cons .str .nil)) (fun s c => (Sh.mkL 1 .str fun _ => spB ((c ()).data.toList.getD 0 0) (s ()), [fun _ => (s ()).size < 4294967281, fun _ => ∃ x, c () = (⟨#[x]⟩ : ByteArray)]))
  (addS 34 (.cons (.slice 1 .str) (.cons .str .nil)) (fun l x => (.int .i64 fun _ => Lib.idxOfS (l ()) (x ()), [fun _ => List.length (α := ByteArray) (l ()) ≤ 9223372036854775807]))
  (addS 37 (.cons (.slice 1 .str) .nil) (fun w => (Sh.mkL 10 shC fun _ => consOf (w ()), [fun _ => List.length (α := ByteArray) (w ()) ≤ 1000000, fun _ => ∀ s ∈ (w () : List ByteArray), s.size < 2147483648])) Fr4))
theorem Fr5_ok : TableOK Tryz.prog G0 Fr5 := addS_ok (⟨Tryz.func33, rfl, rfl, rfl, ⟨rfl, rfl⟩, ok _⟩ : FN 33 Tryz.f33).callable (fun s c h => by
  obtain ⟨x, hx⟩ := h.2.1
  have := split1_ok (s ()) x h.1
  rw [← hx] at this
  have e : ((c ()).data.toList.getD 0 0) = x := by rw [hx]; rfl
  show PF _ _ (Sh.mkL 1 .str fun _ => spB ((c ()).data.toList.getD 0 0) (s ()))
  rw [e]
  exact this) (addS_ok (⟨Tryz.func34, rfl, rfl, rfl, ⟨rfl, rfl⟩, ok _⟩ : FN 34 Tryz.f34).callable (fun l x h => index_ok (l ()) (x ()) h.1) (addS_ok (⟨Tryz.func37, rfl, rfl, rfl, ⟨rfl, rfl⟩, ok _⟩ : FN 37 Tryz.f37).callable (fun w h => containers_ok (w ()) h.1 h.2.1) Fr4_ok))
theorem sp_len (c : UInt8) (s : ByteArray) : 1 ≤ (spB c s).length ∧ (spB c s).length ≤ s.size + 1 := by
  rw [← split_spB]
  have h1 : 1 ≤ (⟨#[c]⟩ : ByteArray).size := Nat.le_refl _
  rw [Lib.splitB_all ⟨#[c]⟩ h1 0 _ s rfl]
  have := Lib.countB_le ⟨#[c]⟩ h1 _ s (Nat.le_refl _)
  omega
theorem sp_size (c : UInt8) (s : ByteArray) : ∀ x ∈ spB c s, x.size ≤ s.size := by
  rw [← split_spB]
  exact fun x hx => splitB_size ⟨#[c]⟩ _ s x hx
theorem evmkL_eq {esz : Nat} {s : Sh} {x y : List s.val} (h : x = y) : impP (s.mkL esz fun _ => x) (s.mkL esz fun _ => y) := h ▸ impP_refl _
theorem cons_len : ∀ (w : List ByteArray), (consOf w).length ≤ w.length
  | a :: b :: c :: d :: r => by
    have := cons_len r
    show (consOf r).length + 1 ≤ r.length + 1 + 1 + 1 + 1
    omega
  | [] => Nat.zero_le _
  | [_] => Nat.zero_le _
  | [_, _] => Nat.zero_le _
  | [_, _, _] => Nat.zero_le _
theorem chs_len : ∀ (w : List ByteArray), (chsOf w).length ≤ w.length
  | a :: b :: c :: r => by
    have := chs_len r
    show (chsOf r).length + 1 ≤ r.length + 1 + 1 + 1
    omega
  | [] => Nat.zero_le _
  | [_] => Nat.zero_le _
  | [_, _] => Nat.zero_le _
theorem raw_len (w : List ByteArray) (k : Int) : (rawK w k).2.1.2.2.2.1.length ≤ w.length ∧ (rawK w k).2.2.2.2.1.length ≤ w.length := by
  have d := fun n => List.length_drop (i := n) (l := w)
  unfold rawK
  split
  · exact ⟨Nat.le_trans (cons_len _) (by rw [d]; omega), Nat.zero_le _⟩
  · split
    · exact ⟨Nat.zero_le _, Nat.zero_le _⟩
    · split
      · exact ⟨Nat.zero_le _, Nat.le_trans (chs_len _) (by rw [d]; omega)⟩
      · split
        · exact ⟨Nat.zero_le _, Nat.zero_le _⟩
        · split <;> exact ⟨Nat.zero_le _, Nat.zero_le _⟩
theorem rd_drop (w : List ByteArray) (n : Nat) (hn : n ≤ w.length) : (rdL Sh.str.rd (fun _ => (w.length : Int) - (n : Int)) fun j => Sh.str.mk fun _ => w.getD ((n : Int) + j ()).toNat ByteArray.empty) = w.drop n := by
  refine rdL_ext Sh.str.rd _ _ (w.drop n : List ByteArray) (by
    have e : (w.drop n).length = w.length - n := List.length_drop
    have e : ((w.drop n).length : Int) = (w.length : Int) - (n : Int) := by omega
    exact e.symm) fun i hi => ?_
  have e : (w.drop n).length = w.length - n := List.length_drop
  have hi : i < (w.drop n).length := hi
  show w.getD ((n : Int) + (i : Int)).toNat ByteArray.empty = (w.drop n)[i]
  rw [show ((n : Int) + (i : Int)).toNat = n + i by omega, List.getD_eq_getElem?_getD, List.getElem?_eq_getElem (by omega), List.getElem_drop]
  rfl
def prA (s : ByteArray) : Env := [(5, .ptr 1 0), (2, .ptr 0 0), (0, .str fun _ => s)]
def prS (E : EV) : Store := [(0, .var (shE.mk fun _ => e0)), (1, .var (shE.mk fun _ => E))]
theorem evparse_ok (s : ByteArray) (hs : s.size ≤ 900000) : PF 14 (.cons (.str fun _ => s) .nil) (.tuple (.cons (shE.mk fun _ => (parseE s).1) (.cons (.bool fun _ => (parseE s).2) .nil))) := by
  refine (⟨Tryz.func14, rfl, rfl, rfl, ⟨rfl, rfl⟩, ok _⟩ : FN 14 Tryz.f14).treeB (mkM_ok Fr5_ok emptyS_ok) (callB_ok emptyB_ok) false 60 ((.both .any (.both (.both (.to 16) (.no (.no (.no (.no (.both (.to 16) (.to 16))))))) (.both (.both (.to 16) (.no (.no (.no (.both (.to 16) (.to 16)))))) (.both (.both (.to 16) (.no (.no (.both (.to 16) (.to 16))))) (.both (.both (.to 16) (.both (.to 16) (.to 16))) (.both (.both (.to 16) (.both (.to 16) (.to 16))) (.both (.to 16) (.to 16))))))))) rfl ?_
  conv => arg 5; cbv
  have l1 := sp_len 32 s
  have z1 := sp_size 32 s
  have hx0 : (0 : Int) ≤ 0 ∧ (0 : Int) < ((spB 32 s).length : Int) := ⟨by decide, by omega⟩
  have eW : (rdL Sh.str.rd (fun _ => ((wordsL.length : Nat) : Int)) fun j => Sh.str.mk fun _ => wordsL.getD (j ()).toNat ByteArray.empty) = wordsL := rdL_mkL .str wordsL
  have hk : ∀ {β : Type} (f : Int → β), f (Lib.idxOfS (rdL Sh.str.rd (fun _ => ((wordsL.length : Nat) : Int)) fun j => Sh.str.mk fun _ => wordsL.getD (j ()).toNat ByteArray.empty) (wd (spB 32 s) 0)) = f (Lib.idxOfS wordsL (wd (spB 32 s) 0)) := fun f => congrArg (fun l => f (Lib.idxOfS l (wd (spB 32 s) 0))) eW
  obtain ⟨k, hkk⟩ : ∃ k, k = Lib.idxOfS wordsL (wd (spB 32 s) 0) := ⟨_, rfl⟩
  rw [← hkk] at hk
  obtain ⟨E, hE⟩ : ∃ E, E = rawK (spB 32 s) k := ⟨_, rfl⟩
  have hP : parseE s = if rightB E = true ∧ textE E = s then (E, true) else (e0, false) := by
    rw [hE, hkk]; rfl
  have b1 : s.size < 4294967281 := by omega
  have b2 : (rdL Sh.str.rd (fun _ => ((wordsL.length : Nat) : Int)) fun j => Sh.str.mk fun _ => wordsL.getD (j ()).toNat ByteArray.empty).length ≤ 9223372036854775807 := Nat.le_trans (Nat.le_of_eq (congrArg List.length eW)) (by decide)
  have zs : ∀ i : Nat, (wd (spB 32 s) i).size < 2147483648 := fun i => by
    unfold wd
    rw [List.getD_eq_getElem?_getD]
    cases h : (spB 32 s)[i]? with
    | none => decide
    | some x =>
      have := z1 x (List.mem_of_getElem? h)
      show x.size < _
      omega
  have ki : ∀ (n : Int), (Lib.idxOfS (rdL Sh.str.rd (fun _ => ((wordsL.length : Nat) : Int)) fun j => Sh.str.mk fun _ => wordsL.getD (j ()).toNat ByteArray.empty) (wd (spB 32 s) 0) == n) = true → k = n := fun n h => by
    have := (hk fun k => (k == n)).symm.trans h
    simpa using this
  have kn : ∀ (n : Int), (Lib.idxOfS (rdL Sh.str.rd (fun _ => ((wordsL.length : Nat) : Int)) fun j => Sh.str.mk fun _ => wordsL.getD (j ()).toNat ByteArray.empty) (wd (spB 32 s) 0) == n) = false → k ≠ n := fun n h => by
    have := (hk fun k => (k == n)).symm.trans h
    simpa using this
  have kf : ∀ (n : Int), k ≠ n → (Lib.idxOfS (rdL Sh.str.rd (fun _ => ((wordsL.length : Nat) : Int)) fun j => Sh.str.mk fun _ => wordsL.getD (j ()).toNat ByteArray.empty) (wd (spB 32 s) 0) == n) = false := fun n h => (hk fun k => (k == n)).trans (by simpa using h)
  have lt : ∀ n : Nat, decide ((n : Int) < ((spB 32 s).length : Int)) = true → n < (spB 32 s).length := fun n h => by have := of_decide_eq_true h; omega
  have nl : ∀ n : Nat, decide ((n : Int) < ((spB 32 s).length : Int)) = false → ¬ n < (spB 32 s).length := fun n h => by have := of_decide_eq_false h; omega
  have ix : ∀ (i n : Nat), i < n → n ≤ (spB 32 s).length → (0 : Int) ≤ (i : Int) ∧ (i : Int) < ((spB 32 s).length : Int) := fun i n h1 h2 => by omega
  have kE : Lib.idxOfS (rdL Sh.str.rd (fun _ => ((wordsL.length : Nat) : Int)) fun j => Sh.str.mk fun _ => wordsL.getD (j ()).toNat ByteArray.empty) (wd (spB 32 s) 0) = k := hk id
  have zP : impP (.agg (.cons (.int .i64 fun _ => 0) (.cons (.agg (.cons (.str fun _ => ByteArray.empty) (.cons (.int .i64 fun _ => 0) (.cons (.int .i64 fun _ => 0) (.cons .nils .nil))))) (.cons (.str fun _ => ByteArray.empty) (.cons (.str fun _ => ByteArray.empty) (.cons .nils (.cons (.int .i64 fun _ => 0) .nil))))))) (shE.mk fun _ => e0) := ⟨⟨rfl, rfl⟩, ⟨rfl, ⟨rfl, rfl⟩, ⟨rfl, rfl⟩, rfl, rfl⟩, rfl, rfl, rfl, ⟨rfl, rfl⟩, rfl⟩
  refine ⟨⟨b1, ⟨32, rfl⟩, hx0, b2, fun j => trivial, (by show drawOK _ _ = true; decide +kernel), trivial⟩, fun h => ⟨rfl, ?_⟩, fun g => ?_⟩
  · have h : decide (k < 0) = true := (hk fun k => decide (k < 0)).symm.trans h
    have h : k < 0 := of_decide_eq_true h
    have e : parseE s = (e0, false) := by
      rw [hP, if_neg]
      rintro ⟨hr, _⟩
      have e1 : E.1 = k := by
        rw [hE]
        unfold rawK
        rw [if_neg (by omega), if_neg (by omega), if_neg (by omega), if_neg (by omega)]
        split <;> rfl
      rcases right_kinds hr with ⟨p, hp, h1⟩ | ⟨s, hs, h1⟩ | ⟨s, hs, _, _, _, _, h1⟩ | ⟨k', s, c, n, hk', _, _, _, h1⟩ | ⟨k', n, hk', _, h1⟩ | h1
      all_goals
        rw [h1] at e1
        dsimp only at e1
        omega
    rw [e]
    exact ⟨zP, rfl, rfl⟩
  clear hkk
  have r14 : ¬ (k = 0 ∧ 4 < (spB 32 s).length) → ¬ (k = 1 ∧ 1 < (spB 32 s).length) → ¬ (k = 2 ∧ 1 < (spB 32 s).length) → ¬ ((k = 4 ∨ k = 5) ∧ 3 < (spB 32 s).length) → E = if 1 < (spB 32 s).length then (k, p0, ByteArray.empty, ByteArray.empty, [], atz (wd (spB 32 s) 1), ()) else (k, p0, ByteArray.empty, ByteArray.empty, [], 0, ()) := fun c1 c2 c3 c4 => by
    rw [hE]
    unfold rawK
    rw [if_neg c1, if_neg c2, if_neg c3, if_neg c4]
  have d1 : ∀ n : Nat, n ≤ (spB 32 s).length → (rdL Sh.str.rd (fun _ => ((spB 32 s).length : Int) - (n : Int)) fun j => Sh.str.mk fun _ => (spB 32 s).getD ((n : Int) + j ()).toNat ByteArray.empty).length ≤ 1000000 := fun n hn => by
    refine Nat.le_trans (Nat.le_of_eq (congrArg List.length (rd_drop (spB 32 s) n hn))) ?_
    have e : ((spB 32 s).drop n).length = (spB 32 s).length - n := List.length_drop
    show ((spB 32 s).drop n).length ≤ 1000000
    omega
  have il : ∀ n : Nat, n ≤ (spB 32 s).length → (0 : Int) ≤ (n : Int) ∧ (n : Int) ≤ ((spB 32 s).length : Int) := fun n h1 => by omega
  have d2 : ∀ n : Nat, n ≤ (spB 32 s).length → ∀ x ∈ (rdL Sh.str.rd (fun _ => ((spB 32 s).length : Int) - (n : Int)) fun j => Sh.str.mk fun _ => (spB 32 s).getD ((n : Int) + j ()).toNat ByteArray.empty), x.size < 2147483648 := fun n hn x hx => by
    rw [rd_drop (spB 32 s) n hn] at hx
    have := z1 x (List.mem_of_mem_drop hx)
    omega
  have rl := raw_len (spB 32 s) k
  rw [← hE] at rl
  refine tree_meet (prA s) (prS E) 2 (by rfl) ?_ ?_
  · refine ⟨fun h0 => ?_, fun h0 => ?_⟩
    · have k0 := ki 0 h0
      refine ⟨fun a => ?_, fun a => ?_⟩
      · have a := lt 4 a
        refine ⟨⟨ix 1 5 (by decide) a, ix 2 5 (by decide) a, zs 2, ix 3 5 (by decide) a, zs 3, il 4 (by omega), d1 4 (by omega), d2 4 (by omega), fun j => trivial, (by show drawOK _ _ = true; decide +kernel), trivial⟩, rfl, fun i => i, by rfl, ⟨impP_refl _, impP_refl _, impP_refl _, trivial⟩, ⟨zP, ?_, trivial⟩⟩
        have hX := hE.trans (if_pos ⟨k0, a⟩)
        subst hX
        exact ⟨⟨rfl, kE.trans k0⟩, ⟨rfl, ⟨rfl, rfl⟩, ⟨rfl, rfl⟩, evmkL_eq (esz := 10) (s := shC) (congrArg consOf (rd_drop (spB 32 s) 4 (by omega))), rfl⟩, rfl, rfl, rfl, ⟨rfl, rfl⟩, rfl⟩
      · have a := nl 4 a
        refine ⟨⟨kf 1 (by omega), trivial⟩, ⟨kf 2 (by omega), trivial⟩, ⟨kf 4 (by omega), trivial⟩, ⟨kf 5 (by omega), trivial⟩, ?_⟩
        refine ⟨fun q => ?_, fun q => ?_⟩
        · have q := lt 1 q
          refine ⟨⟨ix 1 2 (by decide) q, zs 1, trivial⟩, rfl, fun i => i, by rfl, ⟨impP_refl _, impP_refl _, impP_refl _, trivial⟩, ⟨zP, ?_, trivial⟩⟩
          have hX := (r14 (by omega) (by omega) (by omega) (by omega)).trans (if_pos q)
          subst hX
          exact ⟨⟨rfl, kE⟩, ⟨rfl, ⟨rfl, rfl⟩, ⟨rfl, rfl⟩, rfl, rfl⟩, rfl, rfl, rfl, ⟨rfl, rfl⟩, rfl⟩
        · have q := nl 1 q
          refine ⟨rfl, fun i => i, by rfl, ⟨impP_refl _, impP_refl _, impP_refl _, trivial⟩, ⟨zP, ?_, trivial⟩⟩
          have hX := (r14 (by omega) (by omega) (by omega) (by omega)).trans (if_neg q)
          subst hX
          exact ⟨⟨rfl, kE⟩, ⟨rfl, ⟨rfl, rfl⟩, ⟨rfl, rfl⟩, rfl, rfl⟩, rfl, rfl, rfl, ⟨rfl, rfl⟩, rfl⟩
    · have k0 := kn 0 h0
      refine ⟨fun h1 => ?_, fun h1 => ?_⟩
      · have k1 := ki 1 h1
        refine ⟨fun a => ?_, fun a => ?_⟩
        · have a := lt 1 a
          refine ⟨⟨ix 1 2 (by decide) a, trivial⟩, rfl, fun i => i, by rfl, ⟨impP_refl _, impP_refl _, impP_refl _, trivial⟩, ⟨zP, ?_, trivial⟩⟩
          have hX := hE.trans ((if_neg (by omega)).trans (if_pos ⟨k1, a⟩))
          subst hX
          exact ⟨⟨rfl, kE.trans k1⟩, ⟨rfl, ⟨rfl, rfl⟩, ⟨rfl, rfl⟩, rfl, rfl⟩, rfl, rfl, rfl, ⟨rfl, rfl⟩, rfl⟩
        · have a := nl 1 a
          refine ⟨⟨kf 2 (by omega), trivial⟩, ⟨kf 4 (by omega), trivial⟩, ⟨kf 5 (by omega), trivial⟩, ?_⟩
          refine ⟨fun q => ?_, fun q => ?_⟩
          · have q := lt 1 q
            refine ⟨⟨ix 1 2 (by decide) q, zs 1, trivial⟩, rfl, fun i => i, by rfl, ⟨impP_refl _, impP_refl _, impP_refl _, trivial⟩, ⟨zP, ?_, trivial⟩⟩
            have hX := (r14 (by omega) (by omega) (by omega) (by omega)).trans (if_pos q)
            subst hX
            exact ⟨⟨rfl, kE⟩, ⟨rfl, ⟨rfl, rfl⟩, ⟨rfl, rfl⟩, rfl, rfl⟩, rfl, rfl, rfl, ⟨rfl, rfl⟩, rfl⟩
          · have q := nl 1 q
            refine ⟨rfl, fun i => i, by rfl, ⟨impP_refl _, impP_refl _, impP_refl _, trivial⟩, ⟨zP, ?_, trivial⟩⟩
            have hX := (r14 (by omega) (by omega) (by omega) (by omega)).trans (if_neg q)
            subst hX
            exact ⟨⟨rfl, kE⟩, ⟨rfl, ⟨rfl, rfl⟩, ⟨rfl, rfl⟩, rfl, rfl⟩, rfl, rfl, rfl, ⟨rfl, rfl⟩, rfl⟩
      · have k1 := kn 1 h1
        refine ⟨fun h2 => ?_, fun h2 => ?_⟩
        · have k2 := ki 2 h2
          refine ⟨fun a => ?_, fun a => ?_⟩
          · have a := lt 1 a
            refine ⟨⟨ix 1 2 (by decide) a, il 2 (by omega), d1 2 (by omega), d2 2 (by omega), fun j => trivial, (by show drawOK _ _ = true; decide +kernel), trivial⟩, rfl, fun i => i, by rfl, ⟨impP_refl _, impP_refl _, impP_refl _, trivial⟩, ⟨zP, ?_, trivial⟩⟩
            have hX := hE.trans ((if_neg (by omega)).trans ((if_neg (by omega)).trans (if_pos ⟨k2, a⟩)))
            subst hX
            exact ⟨⟨rfl, kE.trans k2⟩, ⟨rfl, ⟨rfl, rfl⟩, ⟨rfl, rfl⟩, rfl, rfl⟩, rfl, rfl, evmkL_eq (esz := 7) (s := shH) (congrArg chsOf (rd_drop (spB 32 s) 2 (by omega))), ⟨rfl, rfl⟩, rfl⟩
          · have a := nl 1 a
            refine ⟨⟨kf 4 (by omega), trivial⟩, ⟨kf 5 (by omega), trivial⟩, ?_⟩
            refine ⟨fun q => ?_, fun q => ?_⟩
            · have q := lt 1 q
              refine ⟨⟨ix 1 2 (by decide) q, zs 1, trivial⟩, rfl, fun i => i, by rfl, ⟨impP_refl _, impP_refl _, impP_refl _, trivial⟩, ⟨zP, ?_, trivial⟩⟩
              have hX := (r14 (by omega) (by omega) (by omega) (by omega)).trans (if_pos q)
              subst hX
              exact ⟨⟨rfl, kE⟩, ⟨rfl, ⟨rfl, rfl⟩, ⟨rfl, rfl⟩, rfl, rfl⟩, rfl, rfl, rfl, ⟨rfl, rfl⟩, rfl⟩
            · have q := nl 1 q
              refine ⟨rfl, fun i => i, by rfl, ⟨impP_refl _, impP_refl _, impP_refl _, trivial⟩, ⟨zP, ?_, trivial⟩⟩
              have hX := (r14 (by omega) (by omega) (by omega) (by omega)).trans (if_neg q)
              subst hX
              exact ⟨⟨rfl, kE⟩, ⟨rfl, ⟨rfl, rfl⟩, ⟨rfl, rfl⟩, rfl, rfl⟩, rfl, rfl, rfl, ⟨rfl, rfl⟩, rfl⟩
        · have k2 := kn 2 h2
          refine ⟨fun h4 => ?_, fun h4 => ?_⟩
          · have k4 : k = 4 ∨ k = 5 := .inl (ki 4 h4)
            refine ⟨fun a => ?_, fun a => ?_⟩
            · have a := lt 3 a
              refine ⟨⟨ix 1 4 (by decide) a, ix 2 4 (by decide) a, ix 3 4 (by decide) a, zs 3, (by show drawOK _ _ = true; decide +kernel), trivial⟩, rfl, fun i => i, by rfl, ⟨impP_refl _, impP_refl _, impP_refl _, trivial⟩, ⟨zP, ?_, trivial⟩⟩
              have hX := hE.trans ((if_neg (by omega)).trans ((if_neg (by omega)).trans ((if_neg (by omega)).trans (if_pos ⟨k4, a⟩))))
              subst hX
              exact ⟨⟨rfl, kE⟩, ⟨rfl, ⟨rfl, rfl⟩, ⟨rfl, rfl⟩, rfl, rfl⟩, rfl, rfl, rfl, ⟨rfl, rfl⟩, rfl⟩
            · have a := nl 3 a
              refine ⟨fun q => ?_, fun q => ?_⟩
              · have q := lt 1 q
                refine ⟨⟨ix 1 2 (by decide) q, zs 1, trivial⟩, rfl, fun i => i, by rfl, ⟨impP_refl _, impP_refl _, impP_refl _, trivial⟩, ⟨zP, ?_, trivial⟩⟩
                have hX := (r14 (by omega) (by omega) (by omega) (by omega)).trans (if_pos q)
                subst hX
                exact ⟨⟨rfl, kE⟩, ⟨rfl, ⟨rfl, rfl⟩, ⟨rfl, rfl⟩, rfl, rfl⟩, rfl, rfl, rfl, ⟨rfl, rfl⟩, rfl⟩
              · have q := nl 1 q
                refine ⟨rfl, fun i => i, by rfl, ⟨impP_refl _, impP_refl _, impP_refl _, trivial⟩, ⟨zP, ?_, trivial⟩⟩
                have hX := (r14 (by omega) (by omega) (by omega) (by omega)).trans (if_neg q)
                subst hX
                exact ⟨⟨rfl, kE⟩, ⟨rfl, ⟨rfl, rfl⟩, ⟨rfl, rfl⟩, rfl, rfl⟩, rfl, rfl, rfl, ⟨rfl, rfl⟩, rfl⟩
          · have k4' := kn 4 h4
            refine ⟨fun h5 => ?_, fun h5 => ?_⟩
            · have k4 : k = 4 ∨ k = 5 := .inr (ki 5 h5)
              refine ⟨fun a => ?_, fun a => ?_⟩
              · have a := lt 3 a
                refine ⟨⟨ix 1 4 (by decide) a, ix 2 4 (by decide) a, ix 3 4 (by decide) a, zs 3, (by show drawOK _ _ = true; decide +kernel), trivial⟩, rfl, fun i => i, by rfl, ⟨impP_refl _, impP_refl _, impP_refl _, trivial⟩, ⟨zP, ?_, trivial⟩⟩
                have hX := hE.trans ((if_neg (by omega)).trans ((if_neg (by omega)).trans ((if_neg (by omega)).trans (if_pos ⟨k4, a⟩))))
                subst hX
                exact ⟨⟨rfl, kE⟩, ⟨rfl, ⟨rfl, rfl⟩, ⟨rfl, rfl⟩, rfl, rfl⟩, rfl, rfl, rfl, ⟨rfl, rfl⟩, rfl⟩
              · have a := nl 3 a
                refine ⟨fun q => ?_, fun q => ?_⟩
                · have q := lt 1 q
                  refine ⟨⟨ix 1 2 (by decide) q, zs 1, trivial⟩, rfl, fun i => i, by rfl, ⟨impP_refl _, impP_refl _, impP_refl _, trivial⟩, ⟨zP, ?_, trivial⟩⟩
                  have hX := (r14 (by omega) (by omega) (by omega) (by omega)).trans (if_pos q)
                  subst hX
                  exact ⟨⟨rfl, kE⟩, ⟨rfl, ⟨rfl, rfl⟩, ⟨rfl, rfl⟩, rfl, rfl⟩, rfl, rfl, rfl, ⟨rfl, rfl⟩, rfl⟩
                · have q := nl 1 q
                  refine ⟨rfl, fun i => i, by rfl, ⟨impP_refl _, impP_refl _, impP_refl _, trivial⟩, ⟨zP, ?_, trivial⟩⟩
                  have hX := (r14 (by omega) (by omega) (by omega) (by omega)).trans (if_neg q)
                  subst hX
                  exact ⟨⟨rfl, kE⟩, ⟨rfl, ⟨rfl, rfl⟩, ⟨rfl, rfl⟩, rfl, rfl⟩, rfl, rfl, rfl, ⟨rfl, rfl⟩, rfl⟩
            · have k5 := kn 5 h5
              refine ⟨fun q => ?_, fun q => ?_⟩
              · have q := lt 1 q
                refine ⟨⟨ix 1 2 (by decide) q, zs 1, trivial⟩, rfl, fun i => i, by rfl, ⟨impP_refl _, impP_refl _, impP_refl _, trivial⟩, ⟨zP, ?_, trivial⟩⟩
                have hX := (r14 (by omega) (by omega) (by omega) (by omega)).trans (if_pos q)
                subst hX
                exact ⟨⟨rfl, kE⟩, ⟨rfl, ⟨rfl, rfl⟩, ⟨rfl, rfl⟩, rfl, rfl⟩, rfl, rfl, rfl, ⟨rfl, rfl⟩, rfl⟩
              · have q := nl 1 q
                refine ⟨rfl, fun i => i, by rfl, ⟨impP_refl _, impP_refl _, impP_refl _, trivial⟩, ⟨zP, ?_, trivial⟩⟩
                have hX := (r14 (by omega) (by omega) (by omega) (by omega)).trans (if_neg q)
                subst hX
                exact ⟨⟨rfl, kE⟩, ⟨rfl, ⟨rfl, rfl⟩, ⟨rfl, rfl⟩, rfl, rfl⟩, rfl, rfl, rfl, ⟨rfl, rfl⟩, rfl⟩
  clear r14 hE
  obtain ⟨kk, ⟨nm, pr, po, l, ⟨⟩⟩, nn, c, hs, n, ⟨⟩⟩ := E
  refine exploreB_ok (by first | exact ok _ | exact (ok _).at _ | exact (ok _).round _) (mkM_ok Fr5_ok emptyS_ok) (callB_ok emptyB_ok) (u := false) 60 (.any) _ rfl ?_
  conv => arg 5; cbv
  have fC : ∀ j : Unit → Int, shC.fits (shC.mk fun x => (l : List shC.val).getD (j ()).toNat shC.dflt) := fun j => fits_of_mk shC _
  have fH : ∀ j : Unit → Int, shH.fits (shH.mk fun x => (hs : List shH.val).getD (j ()).toNat shH.dflt) := fun j => fits_of_mk shH _
  have hl : l.length ≤ 9223372036854775807 := Nat.le_trans rl.1 (by omega)
  have hh : hs.length ≤ 9223372036854775807 := Nat.le_trans rl.2 (by omega)
  have m1 : (rdL shC.rd (fun _ => (l.length : Int)) fun j => shC.mk fun _ => (l : List shC.val).getD (j ()).toNat shC.dflt).length ≤ 9223372036854775807 := by
    rw [rdL_len]; show ((l.length : Nat) : Int).toNat ≤ _; rw [Int.toNat_natCast]; exact hl
  have m2 : (rdL shH.rd (fun _ => (hs.length : Int)) fun j => shH.mk fun _ => (hs : List shH.val).getD (j ()).toNat shH.dflt).length ≤ 9223372036854775807 := by
    rw [rdL_len]; show ((hs.length : Nat) : Int).toNat ≤ _; rw [Int.toNat_natCast]; exact hh
  have eE : shE.rd (shE.mk fun _ => ((kk, (nm, pr, po, l, ()), nn, c, hs, n, ()) : EV)) = ((kk, (nm, pr, po, l, ()), nn, c, hs, n, ()) : EV) := rd_mk shE _
  refine ⟨⟨m1, m2, fC, fH, trivial⟩, fun h => ⟨rfl, ?_⟩, fun h => ⟨⟨m1, m2, fC, fH, trivial⟩, fun t => ⟨rfl, ?_⟩, fun t => ⟨rfl, ?_⟩⟩⟩
  · have h : (!rightB (kk, (nm, pr, po, l, ()), nn, c, hs, n, ())) = true := (congrArg (fun e => !rightB e) eE).symm.trans h
    have e : parseE s = (e0, false) := by
      rw [hP, if_neg]
      rintro ⟨hr, _⟩
      rw [hr] at h; cases h
    rw [e]
    exact ⟨zP, rfl, rfl⟩
  · have t : ¬ textE (kk, (nm, pr, po, l, ()), nn, c, hs, n, ()) = s := fun q => absurd ((congrArg textE eE).trans q) (of_decide_eq_true t)
    have e : parseE s = (e0, false) := by
      rw [hP, if_neg]
      rintro ⟨_, q⟩
      exact t q
    rw [e]
    exact ⟨zP, rfl, rfl⟩
  · have h : (!rightB (kk, (nm, pr, po, l, ()), nn, c, hs, n, ())) = false := (congrArg (fun e => !rightB e) eE).symm.trans h
    have h : rightB (kk, (nm, pr, po, l, ()), nn, c, hs, n, ()) = true := by simpa using h
    have t : textE (kk, (nm, pr, po, l, ()), nn, c, hs, n, ()) = s := (congrArg textE eE).symm.trans (Decidable.not_not.1 (of_decide_eq_false t))
    rw [hP, if_pos ⟨h, t⟩]
    exact ⟨impP_refl _, rfl, rfl⟩
end Go.Proofs.YtpbjcabecalpaaaGreatDoor
namespace Go.Proofs.YtpbjcabecalpaaaGreatDoor
open Go Go.Abs Go.Proofs
noncomputable def Fr6 : Table := addS 14 (.cons .str .nil) (fun s => (.tuple (.cons (shE.mk fun _ => (parseE (s ())).1) (.cons (.bool fun _ => (parseE (s ())).2) .nil)), [fun _ => (s ()).size ≤ 900000])) Fr5
theorem Fr6_ok : TableOK Tryz.prog G0 Fr6 := addS_ok (⟨Tryz.func14, rfl, rfl, rfl, ⟨rfl, rfl⟩, ok _⟩ : FN 14 Tryz.f14).callable (fun s h => evparse_ok (s ()) h.1) Fr5_ok
structure LiX where
  s : ByteArray
  es : List EV
def liA (x : LiX) : Env := [(0, .str fun _ => x.s), (6, .int .i64 fun _ => (x.es.length : Int) + 1), (5, .slice (some 0) 9 (fun _ => (x.es.length : Int)) fun j => shE.mk fun _ => (x.es : List shE.val).getD (j ()).toNat shE.dflt)]
def liS : Store := [(0, .own 9 27)]
theorem evcut_len {s : List UInt8} {c : UInt8} {p t : List UInt8} {b : Bool} (h : Lib.cut s [c] = (p, t, b)) : p.length ≤ s.length ∧ t.length ≤ s.length := by
  unfold Lib.cut at h
  split at h
  · obtain ⟨rfl, rfl, rfl⟩ : s.take (Lib.index s [c]).toNat = p ∧ s.drop ((Lib.index s [c]).toNat + [c].length) = t ∧ true = b := by simpa using h
    rw [List.length_take, List.length_drop]
    omega
  · obtain ⟨rfl, rfl, rfl⟩ : s = p ∧ [] = t ∧ false = b := by simpa using h
    exact ⟨Nat.le_refl _, Nat.zero_le _⟩
theorem getD_any {α : Type} {l : List α} {i : Nat} (a b : α) (h : i < l.length) : l.getD i a = l.getD i b := by
  rw [List.getD_eq_getElem?_getD, List.getD_eq_getElem?_getD, List.getElem?_eq_getElem h]; rfl
theorem sp_cases (s : ByteArray) : (spB 10 s = [s] ∧ cutB s nlB = (s, ByteArray.empty, false)) ∨ ∃ p t q r, spB 10 s = p :: spB 10 t ∧ spB 10 t = q :: r ∧ cutB s nlB = (p, t, true) ∧ p.size ≤ s.size ∧ t.size ≤ s.size := by
  rcases cut_spL 10 s.data.toList with ⟨q1, q2⟩ | ⟨p, t, q1, q2⟩
  · refine .inl ⟨?_, ?_⟩
    · unfold spB; rw [q1]; show [toB s.data.toList] = [s]; rw [toB_data]
    · show (toB (Lib.cut s.data.toList [10]).1, toB (Lib.cut s.data.toList [10]).2.1, (Lib.cut s.data.toList [10]).2.2) = _
      rw [q2]; show (toB s.data.toList, _, _) = _; rw [toB_data]; rfl
  · obtain ⟨k1, k2⟩ := evcut_len q2
    rw [size_toB] at k1 k2
    obtain ⟨q, r, hq⟩ : ∃ q r, spB 10 (toB t) = q :: r := by
      cases h : spB 10 (toB t) with
      | nil => have := (sp_len 10 (toB t)).1; rw [h] at this; exact absurd this (by decide)
      | cons q r => exact ⟨q, r, rfl⟩
    refine .inr ⟨toB p, toB t, q, r, ?_, hq, ?_, by rw [← size_toB]; exact k1, by rw [← size_toB]; exact k2⟩
    · unfold spB; rw [q1]; rfl
    · show (toB (Lib.cut s.data.toList [10]).1, toB (Lib.cut s.data.toList [10]).2.1, (Lib.cut s.data.toList [10]).2.2) = _
      rw [q2]
theorem evlines_ok (s : ByteArray) (hs : s.size ≤ 900000) : PF 16 (.cons (.str fun _ => s) .nil) (.tuple (.cons (Sh.mkL 9 shE fun _ => (linesE s).1) (.cons (.int .i64 fun _ => (linesE s).2.1) (.cons (.int .i64 fun _ => (linesE s).2.2) .nil)))) := by
  generalize hR : linesE s = R
  refine (⟨Tryz.func16, rfl, rfl, rfl, ⟨rfl, rfl⟩, ok _⟩ : FN 16 Tryz.f16).treeB (mkM_ok Fr6_ok emptyS_ok) (callB_ok emptyB_ok) false 60 (.any) rfl ?_
  conv => arg 5; cbv
  refine run_own (A := _) 5 9 27 (shE.mk fun _ => e0) (by rfl) (by rfl) (by rfl) ?_
  refine run_inv (ι := LiX) (fun x => (spB 10 x.s).length) (fun x => goL (spB 10 x.s) x.es = R ∧ x.s.size ≤ 900000 ∧ x.es.length ≤ 1000) liA (fun _ => liS) 1 ⟨s, []⟩ (fun i => i) (by rfl) (by rfl) ⟨hR, hs, Nat.zero_le _⟩ ?_ ⟨impP_refl _, impP_refl _, ⟨.inr rfl, rfl, rfl, fun j h0 h1 => absurd h1 (by show ¬ j < 0; omega)⟩, trivial⟩ ⟨⟨rfl, rfl⟩, trivial⟩
  rintro ⟨s, es⟩ hi ih
  dsimp only at hi
  refine exploreB_ok (by first | exact ok _ | exact (ok _).at _ | exact (ok _).round _) (mkM_ok Fr6_ok emptyS_ok) (callB_ok emptyB_ok) (u := false) 60 (.any) _ rfl ?_
  conv => arg 5; cbv
  obtain ⟨hg, hz, hlen⟩ := hi
  have b1 : s.size < 4294967281 := by omega
  refine ⟨fun h => ⟨⟨b1, trivial⟩, fun h2 => ⟨rfl, ?_⟩, fun h2 => ⟨fun h3 => ⟨rfl, ?_⟩, fun h3 => ⟨⟨?_, trivial⟩, fun h4 => ⟨rfl, ?_⟩, fun h4 => ⟨⟨?_, trivial⟩, ?_⟩⟩⟩⟩, fun h => ⟨rfl, ?_⟩⟩
  · have h : ¬ s = ByteArray.empty := of_decide_eq_true (p := ¬ s = ByteArray.empty) h
    have h2 : (1000 : Int) < (es.length : Int) + 1 := of_decide_eq_true h2
    have e : R = ([], 1001, 12) := by
      rw [← hg]
      rcases sp_cases s with ⟨q1, _⟩ | ⟨p, t, q, r, q1, q2, _⟩
      · rw [q1]; unfold goL; rw [if_neg h, if_pos (by omega)]
      · rw [q1, q2]; unfold goL; rw [if_pos (by omega)]
    rw [e]
    exact ⟨rfl, ⟨rfl, by show (es.length : Int) + 1 = 1001; omega⟩, ⟨rfl, rfl⟩, rfl⟩
  · have h : ¬ s = ByteArray.empty := of_decide_eq_true (p := ¬ s = ByteArray.empty) h
    have h2 : ¬ (1000 : Int) < (es.length : Int) + 1 := of_decide_eq_false h2
    have h3 : (!(cutB s nlB).2.2) = true := h3
    have e : R = ([], (es.length : Int) + 1, 10) := by
      rw [← hg]
      rcases sp_cases s with ⟨q1, _⟩ | ⟨p, t, q, r, q1, q2, q3, _⟩
      · rw [q1]; unfold goL; rw [if_neg h, if_neg (by omega)]
      · rw [q3] at h3; cases h3
    rw [e]
    exact ⟨rfl, ⟨rfl, rfl⟩, ⟨rfl, rfl⟩, rfl⟩
  · show (cutB s nlB).1.size ≤ 900000
    rcases sp_cases s with ⟨q1, q2⟩ | ⟨p, t, q, r, q1, q2, q3, q4, q5⟩
    · rw [q2]; exact hz
    · rw [q3]; exact Nat.le_trans q4 hz
  · have h2 : ¬ (1000 : Int) < (es.length : Int) + 1 := of_decide_eq_false h2
    have h3 : (!(cutB s nlB).2.2) = false := h3
    have h4 : (!(parseE (cutB s nlB).1).2) = true := h4
    have e : R = ([], (es.length : Int) + 1, 11) := by
      rw [← hg]
      rcases sp_cases s with ⟨q1, q2⟩ | ⟨p, t, q, r, q1, q2, q3, _⟩
      · rw [q2] at h3; cases h3
      · rw [q3] at h4
        have h4 : (!(parseE p).2) = true := h4
        rw [q1, q2]; unfold goL; rw [if_neg (by omega), if_neg (fun k => by rw [k] at h4; cases h4)]
    rw [e]
    exact ⟨rfl, ⟨rfl, rfl⟩, ⟨rfl, rfl⟩, rfl⟩
  · show (0 : Int) < 1 ∧ ((es.length : Int) + 1) * 128 ≤ 140737488355328
    omega
  · have h2 : ¬ (1000 : Int) < (es.length : Int) + 1 := of_decide_eq_false h2
    have h3 : (!(cutB s nlB).2.2) = false := h3
    have h4 : (!(parseE (cutB s nlB).1).2) = false := h4
    rcases sp_cases s with ⟨q1, q2⟩ | ⟨p, t, q, r, q1, q2, q3, q4, q5⟩
    · rw [q2] at h3; cases h3
    have h4 : (!(parseE p).2) = false := by rw [q3] at h4; exact h4
    have hw : IntKind.i64.wrap ((es.length : Int) + 1 + 1) = ((es ++ [(parseE p).1]).length : Int) + 1 := by
      rw [IntWalk.i64_in _ ⟨by omega, by omega⟩, List.length_append, List.length_singleton]; omega
    have e1 : (cutB s nlB).1 = p := by rw [q3]
    have e2 : (cutB s nlB).2.1 = t := by rw [q3]
    refine ih ⟨t, es ++ [(parseE p).1]⟩ (fun i => bif beqN i 0 then 2 else i) ⟨?_, Nat.le_trans q5 hz, ?_⟩ ?_ (by rfl) ⟨e2, ⟨rfl, hw⟩, ?_, trivial⟩ ⟨⟨rfl, rfl⟩, trivial⟩
    · show goL (spB 10 t) (es ++ [(parseE p).1]) = R
      rw [← hg, q1, q2]
      conv => rhs; unfold goL
      rw [if_neg (by omega), if_pos (by simpa using h4)]
    · show (es ++ [(parseE p).1]).length ≤ 1000
      rw [List.length_append, List.length_singleton]; omega
    · show (spB 10 t).length < (spB 10 s).length
      rw [q1]; exact Nat.lt_succ_self _
    · rw [← e1]
      exact push_imp shE (some 2) 9 es (parseE (cutB s nlB).1).1
  · have h : ¬ ¬ s = ByteArray.empty := of_decide_eq_false (p := ¬ s = ByteArray.empty) h
    have h : s = ByteArray.empty := Decidable.not_not.1 h
    have e : R = (es, 0, 0) := by
      rw [← hg, h]
      show goL [ByteArray.empty] es = _
      unfold goL
      rw [if_pos rfl]
    rw [e]
    exact ⟨⟨.inl rfl, rfl, rfl, fun j _ _ => impP_refl _⟩, ⟨rfl, rfl⟩, ⟨rfl, rfl⟩, rfl⟩
def sptA (l : List EV) (x : Nat × ByteArray) : Env := [(9, .int .i64 fun _ => (x.1 : Int)), (8, .int .i64 fun _ => (l.length : Int)), (7, Sh.mkL 9 shE fun _ => l), (3, .str fun _ => x.2)]
theorem evscript_ok (l : List EV) (hl : l.length ≤ 1000) (h1 : ∀ e ∈ l, e.2.1.2.2.2.1.length ≤ 9223372036854775807) (h2 : ∀ e ∈ l, e.2.2.2.2.1.length ≤ 9223372036854775807) : PF 18 (.cons (Sh.mkL 9 shE fun _ => l) .nil) (.str fun _ => scriptE l) := by
  generalize hR : scriptE l = R
  refine (⟨Tryz.func18, rfl, rfl, rfl, ⟨rfl, rfl⟩, ok _⟩ : FN 18 Tryz.f18).treeB (mkM_ok Fr6_ok emptyS_ok) (callB_ok emptyB_ok) false 60 (.any) rfl ?_
  conv => arg 5; cbv
  refine run_inv (ι := Nat × ByteArray) (fun x => l.length - x.1) (fun x => x.1 ≤ l.length ∧ scrG (l.drop x.1) x.2 = R ∧ x.2.size ≤ 4001 * x.1) (sptA l) (fun _ => []) 0 (0, ByteArray.empty) (fun i => i) (by rfl) (by rfl) ⟨Nat.zero_le _, hR, by decide⟩ ?_ ⟨impP_refl _, impP_refl _, impP_refl _, impP_refl _, trivial⟩ trivial
  rintro ⟨i, a⟩ hi ih
  dsimp only at hi
  refine exploreB_ok (by first | exact ok _ | exact (ok _).at _ | exact (ok _).round _) (mkM_ok Fr6_ok emptyS_ok) (callB_ok emptyB_ok) (u := false) 60 (.any) _ rfl ?_
  conv => arg 5; cbv
  obtain ⟨hi1, hg, hz⟩ := hi
  refine ⟨fun h => ?_, fun h => ⟨rfl, ?_⟩⟩
  · have h : (i : Int) < (l.length : Int) := of_decide_eq_true h
    have hi2 : i < l.length := by omega
    have hw : IntKind.i64.wrap ((i : Int) + 1) = ((i + 1 : Nat) : Int) := by rw [IntWalk.i64_in _ ⟨by omega, by omega⟩]; omega
    have hm : l.getD i e0 ∈ l := by
      rw [List.getD_eq_getElem?_getD, List.getElem?_eq_getElem hi2]; exact List.getElem_mem hi2
    have eg : List.getD l ((i : Int)).toNat (Sh.dflt shE) = l.getD i e0 := by
      rw [Int.toNat_natCast]
      exact getD_any (α := EV) _ _ hi2
    have k1 := h1 _ hm
    have k2 := h2 _ hm
    have e := drop_at e0 hi2
    rw [e] at hg
    have eg2 : ∀ (P : EV → Prop), P (l.getD i e0) → P (List.getD l ((i : Int)).toNat (Sh.dflt shE)) := fun P h => eg ▸ h
    have eE : shE.rd (shE.mk fun _ => List.getD l ((i : Int)).toNat (Sh.dflt shE)) = l.getD i e0 := (rd_mk shE _).trans eg
    have m1 : ∀ x : EV, x.2.1.2.2.2.1.length ≤ 9223372036854775807 → (rdL shC.rd (fun _ => (List.length (α := CV) x.2.1.2.2.2.1 : Int)) fun j => shC.mk fun _ => (x.2.1.2.2.2.1 : List shC.val).getD (j ()).toNat shC.dflt).length ≤ 9223372036854775807 := fun x hx => by
      rw [rdL_len]; show ((x.2.1.2.2.2.1.length : Nat) : Int).toNat ≤ _; rw [Int.toNat_natCast]; exact hx
    have m2 : ∀ x : EV, x.2.2.2.2.1.length ≤ 9223372036854775807 → (rdL shH.rd (fun _ => (List.length (α := HV) x.2.2.2.2.1 : Int)) fun j => shH.mk fun _ => (x.2.2.2.2.1 : List shH.val).getD (j ()).toNat shH.dflt).length ≤ 9223372036854775807 := fun x hx => by
      rw [rdL_len]; show ((x.2.2.2.2.1.length : Nat) : Int).toNat ≤ _; rw [Int.toNat_natCast]; exact hx
    have ts := text_short (l.getD i e0)
    refine ⟨⟨⟨Int.natCast_nonneg i, h⟩, m1 _ (eg2 (fun x => x.2.1.2.2.2.1.length ≤ 9223372036854775807) k1), m2 _ (eg2 (fun x => x.2.2.2.2.1.length ≤ 9223372036854775807) k2), fun j => fits_of_mk shC _, fun j => fits_of_mk shH _, trivial⟩, fun t => ⟨rfl, ?_⟩, fun t => ⟨⟨?_, ?_, trivial⟩, ?_⟩⟩
    · have t : textE (l.getD i e0) = ByteArray.empty := (congrArg textE eE).symm.trans (of_decide_eq_true t)
      unfold scrG at hg
      rw [if_pos t] at hg
      exact hg
    · refine Nat.le_trans (Nat.le_of_eq (congrArg (fun x => (textE x).size + nlB.size) eE)) ?_
      show (textE (l.getD i e0)).size + 1 ≤ _
      omega
    · refine Nat.le_trans (Nat.le_of_eq (congrArg (fun x => a.size + (textE x ++ nlB).size) eE)) ?_
      show a.size + (textE (l.getD i e0) ++ nlB).size ≤ _
      rw [ByteArray.size_append]
      have : nlB.size = 1 := rfl
      omega
    · have t : ¬ textE (l.getD i e0) = ByteArray.empty := fun q => absurd ((congrArg textE eE).trans q) (of_decide_eq_false t)
      unfold scrG at hg
      rw [if_neg t] at hg
      refine ih (i + 1, a ++ (textE (l.getD i e0) ++ nlB)) (fun i => i) ⟨by show i + 1 ≤ l.length; omega, hg, ?_⟩ (by show l.length - (i + 1) < l.length - i; omega) (by rfl) ⟨⟨rfl, hw⟩, impP_refl _, impP_refl _, congrArg (fun x => a ++ (textE x ++ nlB)) eE, trivial⟩ trivial
      show (a ++ (textE (l.getD i e0) ++ nlB)).size ≤ 4001 * (i + 1)
      rw [ByteArray.size_append, ByteArray.size_append]
      have : nlB.size = 1 := rfl
      omega
  · have h : ¬ (i : Int) < (l.length : Int) := of_decide_eq_false h
    rw [List.drop_eq_nil_of_le (by omega)] at hg
    exact hg
end Go.Proofs.YtpbjcabecalpaaaGreatDoor
namespace Go.Proofs.YtpbjcabecalpaaaGreatDoor
open Go Go.Abs Go.Proofs
def mnI (a b : Int) : Int := if b < a then b else a
def stP (n : Int) (c : CV) : Int := IntKind.i64.wrap (n + IntKind.i64.wrap (10 + mnI (c.1.size : Int) 3000))
def gP : List CV → Nat → Int → Int
  | [], _, n => n
  | c :: r, i, n => if (50 : Int) < i then 5000 else gP r (i + 1) (stP n c)
def greatP (p : PoV) : Int := gP p.2.2.2.1 0 p.1.size
def stE (n : Int) (c : HV) : Int := IntKind.i64.wrap (n + IntKind.i64.wrap (20 + mnI (c.1.size : Int) 5000))
def gE : List HV → Nat → Int → Int
  | [], _, n => n
  | c :: r, i, n => if (30 : Int) < i then 5000 else gE r (i + 1) (stE n c)
def inE (p : PoV) (s c : ByteArray) : Int := IntKind.i64.wrap (IntKind.i64.wrap (20 + greatP p) + mnI (IntKind.i64.wrap ((s.size : Int) + (c.size : Int))) 5000)
def greatE (e : EV) : Int := gE e.2.2.2.2.1 0 (inE e.2.1 e.2.2.1 e.2.2.2.1)
def gpA (l : List CV) (x : Nat × Int) : Env := [(12, .int .i64 fun _ => (x.1 : Int)), (11, .int .i64 fun _ => (l.length : Int)), (10, Sh.mkL 10 shC fun _ => l), (3, .int .i64 fun _ => x.2)]
theorem greatP_ok (p : PoV) (hl : p.2.2.2.1.length ≤ 9223372036854775807) : PF 19 (.cons (shP.mk fun _ => p) .nil) (.int .i64 fun _ => greatP p) := by
  obtain ⟨nm, pr, po, l, ⟨⟩⟩ := p
  have hl : l.length ≤ 9223372036854775807 := hl
  generalize hR : greatP (nm, pr, po, l, ()) = R
  refine (⟨Tryz.func19, rfl, rfl, rfl, ⟨rfl, rfl⟩, ok _⟩ : FN 19 Tryz.f19).treeB (mkM_ok Fr1_ok emptyS_ok) (callB_ok emptyB_ok) false 60 (.any) rfl ?_
  conv => arg 5; cbv
  refine run_inv (ι := Nat × Int) (fun x => l.length - x.1) (fun x => x.1 ≤ l.length ∧ gP (l.drop x.1) x.1 x.2 = R) (gpA l) (fun _ => []) 0 (0, (nm.size : Int)) (fun i => i) (by rfl) (by rfl) ⟨Nat.zero_le _, hR⟩ ?_ ⟨impP_refl _, impP_refl _, impP_refl _, impP_refl _, trivial⟩ trivial
  rintro ⟨i, n⟩ hi ih
  dsimp only at hi
  obtain ⟨hi1, hg⟩ := hi
  refine exploreB_ok (by first | exact ok _ | exact (ok _).at _ | exact (ok _).round _) (mkM_ok Fr1_ok emptyS_ok) (callB_ok emptyB_ok) (u := false) 60 (.any) _ rfl ?_
  conv => arg 5; cbv
  refine ⟨fun h => ?_, fun h => ⟨rfl, rfl, ?_⟩⟩
  · have h : (i : Int) < (l.length : Int) := of_decide_eq_true h
    have hi2 : i < l.length := by omega
    have hw : IntKind.i64.wrap ((i : Int) + 1) = ((i + 1 : Nat) : Int) := by rw [IntWalk.i64_in _ ⟨by omega, by omega⟩]; omega
    rw [drop_at c0 hi2] at hg
    unfold gP at hg
    have eg : List.getD (α := CV) l ((i : Int)).toNat (shC.dflt : shC.val) = l.getD i c0 := by
      rw [Int.toNat_natCast]
      exact getD_any (α := CV) _ _ hi2
    refine ⟨⟨⟨Int.natCast_nonneg i, h⟩, trivial⟩, fun k => ⟨rfl, rfl, ?_⟩, fun k => ?_⟩
    · have k : (50 : Int) < (i : Int) := of_decide_eq_true k
      rw [if_pos k] at hg
      exact hg
    · have k : ¬ (50 : Int) < (i : Int) := of_decide_eq_false k
      rw [if_neg k] at hg
      refine ih (i + 1, stP n (l.getD i c0)) (fun i => i) ⟨by show i + 1 ≤ l.length; omega, hg⟩ (by show l.length - (i + 1) < l.length - i; omega) (by rfl) ⟨⟨rfl, hw⟩, impP_refl _, impP_refl _, ⟨rfl, congrArg (stP n) eg⟩, trivial⟩ trivial
  · have h : ¬ (i : Int) < (l.length : Int) := of_decide_eq_false h
    rw [List.drop_eq_nil_of_le (by omega)] at hg
    exact hg
noncomputable def Fp1 : Table := addS 19 (.cons shP .nil) (fun nm pr po l => (.int .i64 fun _ => greatP (nm (), pr (), po (), l (), ()), [fun _ => List.length (α := CV) (l ()) ≤ 9223372036854775807])) Fr6
theorem Fp1_ok : TableOK Tryz.prog G0 Fp1 := addS_ok (⟨Tryz.func19, rfl, rfl, rfl, ⟨rfl, rfl⟩, ok _⟩ : FN 19 Tryz.f19).callable (fun nm pr po l h => greatP_ok (nm (), pr (), po (), l (), ()) h.1) Fr6_ok
def geA (l : List HV) (x : Nat × Int) : Env := [(22, .int .i64 fun _ => (x.1 : Int)), (21, .int .i64 fun _ => (l.length : Int)), (20, Sh.mkL 7 shH fun _ => l), (3, .int .i64 fun _ => x.2)]
theorem greatE_ok (e : EV) (hl : e.2.1.2.2.2.1.length ≤ 9223372036854775807) (hh : e.2.2.2.2.1.length ≤ 9223372036854775807) : PF 7 (.cons (shE.mk fun _ => e) .nil) (.int .i64 fun _ => greatE e) := by
  obtain ⟨k, ⟨nm, pr, po, l, ⟨⟩⟩, s, c, hs, n, ⟨⟩⟩ := e
  have hl : l.length ≤ 9223372036854775807 := hl
  have hh : hs.length ≤ 9223372036854775807 := hh
  have e1 := rd_list l
  have l1 : (rdL shC.rd (fun _ => (l.length : Int)) fun j => shC.mk fun _ => (l : List shC.val).getD (j ()).toNat shC.dflt).length ≤ 9223372036854775807 := by
    rw [rdL_len]; show ((l.length : Nat) : Int).toNat ≤ _; rw [Int.toNat_natCast]; exact hl
  generalize hR : greatE (k, (nm, pr, po, l, ()), s, c, hs, n, ()) = R
  refine (⟨Tryz.func7, rfl, rfl, rfl, ⟨rfl, rfl⟩, ok _⟩ : FN 7 Tryz.f7).treeB (mkM_ok Fp1_ok emptyS_ok) (callB_ok emptyB_ok) false 60 (.any) rfl ?_
  conv => arg 5; cbv
  refine ⟨⟨l1, fun j => fits_of_mk shC _, (by show drawOK _ _ = true; decide +kernel), trivial⟩, ?_⟩
  refine run_inv (ι := Nat × Int) (fun x => hs.length - x.1) (fun x => x.1 ≤ hs.length ∧ gE (hs.drop x.1) x.1 x.2 = R) (geA hs) (fun _ => []) 0 (0, inE (nm, pr, po, l, ()) s c) (fun i => i) (by rfl) (by rfl) ⟨Nat.zero_le _, hR⟩ ?_ ⟨impP_refl _, impP_refl _, impP_refl _, ⟨rfl, congrArg (fun x : List CV => inE (nm, pr, po, x, ()) s c) e1⟩, trivial⟩ trivial
  rintro ⟨i, n⟩ hi ih
  dsimp only at hi
  obtain ⟨hi1, hg⟩ := hi
  refine exploreB_ok (by first | exact ok _ | exact (ok _).at _ | exact (ok _).round _) (mkM_ok Fp1_ok emptyS_ok) (callB_ok emptyB_ok) (u := false) 60 (.any) _ rfl ?_
  conv => arg 5; cbv
  refine ⟨fun h => ?_, fun h => ⟨rfl, rfl, ?_⟩⟩
  · have h : (i : Int) < (hs.length : Int) := of_decide_eq_true h
    have hi2 : i < hs.length := by omega
    have hw : IntKind.i64.wrap ((i : Int) + 1) = ((i + 1 : Nat) : Int) := by rw [IntWalk.i64_in _ ⟨by omega, by omega⟩]; omega
    rw [drop_at h0 hi2] at hg
    unfold gE at hg
    have eg : List.getD (α := HV) hs ((i : Int)).toNat (shH.dflt : shH.val) = hs.getD i h0 := by
      rw [Int.toNat_natCast]
      exact getD_any (α := HV) _ _ hi2
    refine ⟨⟨⟨Int.natCast_nonneg i, h⟩, trivial⟩, fun k => ⟨rfl, rfl, ?_⟩, fun k => ?_⟩
    · have k : (30 : Int) < (i : Int) := of_decide_eq_true k
      rw [if_pos k] at hg
      exact hg
    · have k : ¬ (30 : Int) < (i : Int) := of_decide_eq_false k
      rw [if_neg k] at hg
      refine ih (i + 1, stE n (hs.getD i h0)) (fun i => i) ⟨by show i + 1 ≤ hs.length; omega, hg⟩ (by show hs.length - (i + 1) < hs.length - i; omega) (by rfl) ⟨⟨rfl, hw⟩, impP_refl _, impP_refl _, ⟨rfl, congrArg (stE n) eg⟩, trivial⟩ trivial
  · have h : ¬ (i : Int) < (hs.length : Int) := of_decide_eq_false h
    rw [List.drop_eq_nil_of_le (by omega)] at hg
    exact hg
noncomputable def Fp2 : Table := addS 7 (.cons shE .nil) (fun k nm pr po l s c hs n => (.int .i64 fun _ => greatE (k (), (nm (), pr (), po (), l (), ()), s (), c (), hs (), n (), ()), [fun _ => List.length (α := CV) (l ()) ≤ 9223372036854775807, fun _ => List.length (α := HV) (hs ()) ≤ 9223372036854775807])) Fp1
theorem Fp2_ok : TableOK Tryz.prog G0 Fp2 := addS_ok (⟨Tryz.func7, rfl, rfl, rfl, ⟨rfl, rfl⟩, ok _⟩ : FN 7 Tryz.f7).callable (fun k nm pr po l s c hs n h => greatE_ok (k (), (nm (), pr (), po (), l (), ()), s (), c (), hs (), n (), ()) h.1 h.2.1) Fp1_ok
end Go.Proofs.YtpbjcabecalpaaaGreatDoor
namespace Go.Proofs.YtpbjcabecalpaaaGreatDoor
open Go Go.Abs Go.Proofs
noncomputable def Fp3 : Table := addS 16 (.cons .str .nil) (fun s => (.tuple (.cons (Sh.mkL 9 shE fun _ => (linesE (s ())).1) (.cons (.int .i64 fun _ => (linesE (s ())).2.1) (.cons (.int .i64 fun _ => (linesE (s ())).2.2) .nil))), [fun _ => (s ()).size ≤ 900000])) (addS 18 (.cons (.slice 9 shE) .nil) (fun l => (.str fun _ => scriptE (l ()), [fun _ => List.length (α := EV) (l ()) ≤ 1000, fun _ => ∀ e ∈ (l () : List EV), e.2.1.2.2.2.1.length ≤ 9223372036854775807, fun _ => ∀ e ∈ (l () : List EV), e.2.2.2.2.1.length ≤ 9223372036854775807])) Fp2)
theorem Fp3_ok : TableOK Tryz.prog G0 Fp3 := addS_ok (⟨Tryz.func16, rfl, rfl, rfl, ⟨rfl, rfl⟩, ok _⟩ : FN 16 Tryz.f16).callable (fun s h => evlines_ok (s ()) h.1) (addS_ok (⟨Tryz.func18, rfl, rfl, rfl, ⟨rfl, rfl⟩, ok _⟩ : FN 18 Tryz.f18).callable (fun l h => evscript_ok (l ()) h.1 h.2.1 h.2.2.1) Fp2_ok)
theorem evfirst_ok : PF 6 .nil (.bool fun _ => true) := by
  refine (⟨Tryz.func6, rfl, rfl, rfl, ⟨rfl, rfl⟩, ok _⟩ : FN 6 Tryz.f6).treeB (mkM_ok Fp3_ok emptyS_ok) (callB_ok emptyB_ok) false 60 ((.yes (.yes (.yes (.yes (.yes (.yes (.yes (.yes (.yes (.yes (.yes (.yes (.yes (.yes (.yes (.yes .any))))))))))))))))) rfl ?_
  conv => arg 5; cbv
  exact ⟨⟨(by decide +kernel), (by decide +kernel), (by decide +kernel), (by decide +kernel), (by decide +kernel), trivial⟩, ⟨by show _ = _; kernel_rfl, trivial⟩, ⟨by show _ = _; kernel_rfl, trivial⟩, ⟨by show _ = _; kernel_rfl, trivial⟩, ⟨by decide +kernel, trivial⟩, ⟨by show _ = _; kernel_rfl, trivial⟩, ⟨by show _ = _; kernel_rfl, trivial⟩, ⟨by show _ = _; kernel_rfl, trivial⟩, ⟨by show _ = _; kernel_rfl, trivial⟩, ⟨by decide +kernel, trivial⟩, ⟨by show _ = _; kernel_rfl, trivial⟩, ⟨by show _ = _; kernel_rfl, trivial⟩, ⟨by show _ = _; kernel_rfl, trivial⟩, ⟨by show _ = _; kernel_rfl, trivial⟩, ⟨by show _ = _; kernel_rfl, trivial⟩, ⟨by show _ = _; kernel_rfl, trivial⟩, ⟨by show _ = _; kernel_rfl, trivial⟩, ⟨(by decide +kernel), (by decide +kernel), fun j => fits_of_mk shC _, fun j => fits_of_mk shH _, trivial⟩, ⟨by show _ = _; kernel_rfl, trivial⟩, ⟨(by decide +kernel), (by decide +kernel), fun j => fits_of_mk shC _, fun j => fits_of_mk shH _, fun j => fits_of_mk shC _, fun j => fits_of_mk shH _, trivial⟩, ⟨by show _ = _; kernel_rfl, trivial⟩, ⟨(by decide +kernel), (by decide +kernel), fun j => fits_of_mk shC _, fun j => fits_of_mk shH _, trivial⟩, rfl, by show _ = _; kernel_rfl⟩
noncomputable def Fp4 : Table := addS 6 .nil (.bool fun _ => true, []) Fp3
theorem Fp4_ok : TableOK Tryz.prog G0 Fp4 := addS_ok (⟨Tryz.func6, rfl, rfl, rfl, ⟨rfl, rfl⟩, ok _⟩ : FN 6 Tryz.f6).callable (fun _ => evfirst_ok) Fp3_ok
end Go.Proofs.YtpbjcabecalpaaaGreatDoor
