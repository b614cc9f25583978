/- A part of what the walks of this claim stand on. -/
import Derived.Test.YtpbjcabecalpaaaGreatDoorWal
import Derived.Test.YtpbjcabecalpaaaGreatDoorWak
import Derived.Test.YtpbjcabecalpaaaGreatDoorGad
import Derived.Test.YtpbjcabecalpaaaGreatDoorShelf
import Derived.Test.YtpbjcabecalpaaaGreatDoorCards
import Derived.Test.YtpbjcabecalpaaaGreatDoorTie
import Derived.Stop.LaidErr
import Derived.WalkKit
import Derived.ProofKit
import Derived.OpenShut
import Derived.Lay
import Derived.Deep.DeepWitnessRowRef
set_option maxRecDepth 2000
set_option linter.unusedVariables false
set_option linter.unusedSimpArgs false
namespace Go.Proofs.YtpbjcabecalpaaaGreatDoor
open Go Go.Abs Go.Proofs
theorem script_size : ∀ (l : List EV) (a : ByteArray), (scrG l a).size ≤ a.size + 4001 * l.length
  | [], a => by show a.size ≤ _; omega
  | e :: l, a => by
    unfold scrG
    split
    · show 0 ≤ _; omega
    · refine Nat.le_trans (script_size l _) ?_
      rw [ByteArray.size_append, ByteArray.size_append]
      have : nlB.size = 1 := rfl
      have := text_short e
      rw [List.length_cons]; omega
theorem right_few {e : EV} (h : rightB e = true) : e.2.1.2.2.2.1.length ≤ 6 ∧ e.2.2.2.2.1.length ≤ 6 := by
  rcases right_kinds h with ⟨p, hp, rfl⟩ | ⟨s, hs, rfl⟩ | ⟨s, hs, h1, _, l2, h2, rfl⟩ | ⟨k, s, c, n, hk, h1, h2, h3, rfl⟩ | ⟨k, n, hk, h3, rfl⟩ | rfl
  · exact ⟨(pod_parts hp).2.2.2.1.2, Nat.zero_le _⟩
  · exact ⟨Nat.zero_le _, Nat.zero_le _⟩
  · exact ⟨Nat.zero_le _, l2⟩
  · exact ⟨Nat.zero_le _, Nat.zero_le _⟩
  · exact ⟨Nat.zero_le _, Nat.zero_le _⟩
  · exact ⟨Nat.zero_le _, Nat.zero_le _⟩
theorem parse_few (s : ByteArray) : (parseE s).1.2.1.2.2.2.1.length ≤ 6 ∧ (parseE s).1.2.2.2.2.1.length ≤ 6 := by
  cases h : (parseE s).2 with
  | true => exact right_few (parse_same h).2
  | false =>
    unfold parseE at h ⊢
    split
    · rename_i k; rw [if_pos k] at h; cases h
    · exact ⟨Nat.zero_le _, Nat.zero_le _⟩
def baA (l : List EV) (s : ByteArray) (x : Nat × Int × Bool) : Env := [(20, .int .i64 fun _ => (x.1 : Int)), (19, .int .i64 fun _ => (l.length : Int)), (18, Sh.mkL 9 shE fun _ => l), (6, .bool fun _ => x.2.2), (5, .int .i64 fun _ => x.2.1), (0, Sh.mkL 9 shE fun _ => l), (1, .str fun _ => s)]
def bbA (l : List EV) (r : Bool) : Env := [(6, .bool fun _ => r), (0, Sh.mkL 9 shE fun _ => l)]
def bcA (l : List EV) (i : Nat) : Env := [(79, .int .i64 fun _ => (i : Int)), (78, .int .i64 fun _ => (l.length : Int)), (12, Sh.mkL 9 shE fun _ => l), (0, Sh.mkL 9 shE fun _ => l)]
theorem back_ok (l : List EV) (s : ByteArray) (hl : l.length ≤ 9223372036854775807) (h1 : ∀ e ∈ l, e.2.1.2.2.2.1.length ≤ 9223372036854775807) (h2 : ∀ e ∈ l, e.2.2.2.2.1.length ≤ 9223372036854775807) (h3 : ∀ e ∈ l, res3 e) : PF 5 (.cons (Sh.mkL 9 shE fun _ => l) (.cons (.str fun _ => s) .nil)) (.bool fun _ => true) := by
  refine (⟨Tryz.func5, rfl, rfl, rfl, ⟨rfl, rfl⟩, ok _⟩ : FN 5 Tryz.f5).treeB (mkM_ok Fp4_ok emptyS_ok) (callB_ok emptyB_ok) false 60 ((.no .any)) rfl ?_
  conv => arg 5; cbv
  refine ⟨⟨rfl, trivial⟩, ?_⟩
  refine run_inv (ι := Nat × Int × Bool) (fun x => l.length - x.1) (fun x => x.1 ≤ l.length ∧ x.2.2 = (l.take x.1).all rightB) (baA l s) (fun _ => []) 0 (0, 0, true) (fun i => i) (by rfl) (by rfl) ⟨Nat.zero_le _, rfl⟩ ?_ ⟨impP_refl _, impP_refl _, impP_refl _, rfl, impP_refl _, impP_refl _, impP_refl _, trivial⟩ trivial
  rintro ⟨i, n, r⟩ hi ih
  dsimp only at hi
  obtain ⟨hi1, hr⟩ := hi
  have hm1 : ∀ x : EV, x.2.1.2.2.2.1.length ≤ 9223372036854775807 → (rdL shC.rd (fun _ => (List.length (α := CV) x.2.1.2.2.2.1 : Int)) fun j => shC.mk fun _ => (x.2.1.2.2.2.1 : List shC.val).getD (j ()).toNat shC.dflt).length ≤ 9223372036854775807 := fun x hx => by
    rw [rdL_len]; show ((x.2.1.2.2.2.1.length : Nat) : Int).toNat ≤ _; rw [Int.toNat_natCast]; exact hx
  have hm2 : ∀ x : EV, x.2.2.2.2.1.length ≤ 9223372036854775807 → (rdL shH.rd (fun _ => (List.length (α := HV) x.2.2.2.2.1 : Int)) fun j => shH.mk fun _ => (x.2.2.2.2.1 : List shH.val).getD (j ()).toNat shH.dflt).length ≤ 9223372036854775807 := fun x hx => by
    rw [rdL_len]; show ((x.2.2.2.2.1.length : Nat) : Int).toNat ≤ _; rw [Int.toNat_natCast]; exact hx
  refine exploreB_ok (by first | exact ok _ | exact (ok _).at _ | exact (ok _).round _) (mkM_ok Fp4_ok emptyS_ok) (callB_ok emptyB_ok) (u := false) 60 ((.both .any (.both .any (.both .any (.both (.both .any (.to 17)) (.to 17)))))) _ rfl ?_
  conv => arg 5; cbv
  refine ⟨fun h => ?_, fun h => ?_⟩
  · have h : (i : Int) < (l.length : Int) := of_decide_eq_true h
    have hi2 : i < l.length := by omega
    have hw : IntKind.i64.wrap ((i : Int) + 1) = ((i + 1 : Nat) : Int) := by rw [IntWalk.i64_in _ ⟨by omega, by omega⟩]; omega
    have hm : l.getD i e0 ∈ l := by
      rw [List.getD_eq_getElem?_getD, List.getElem?_eq_getElem hi2]; exact List.getElem_mem hi2
    have eg : List.getD l ((i : Int)).toNat (Sh.dflt shE) = l.getD i e0 := by
      rw [Int.toNat_natCast]
      exact getD_any (α := EV) _ _ hi2
    have k1 := h1 _ hm
    have k2 := h2 _ hm
    have eg2 : ∀ (P : EV → Prop), P (l.getD i e0) → P (List.getD l ((i : Int)).toNat (Sh.dflt shE)) := fun P h => eg ▸ h
    have eE : shE.rd (shE.mk fun _ => List.getD l ((i : Int)).toNat (Sh.dflt shE)) = l.getD i e0 := (rd_mk shE _).trans eg
    have c1 := hm1 _ (eg2 (fun x => x.2.1.2.2.2.1.length ≤ 9223372036854775807) k1)
    have c2 := hm2 _ (eg2 (fun x => x.2.2.2.2.1.length ≤ 9223372036854775807) k2)
    have et : (l.take (i + 1)).all rightB = ((l.take i).all rightB && rightB (l.getD i e0)) := by
      rw [List.take_add_one, List.all_append, List.getD_eq_getElem?_getD, List.getElem?_eq_getElem hi2]
      simp
    refine ⟨⟨⟨Int.natCast_nonneg i, h⟩, c1, c2, fun j => fits_of_mk shC _, fun j => fits_of_mk shH _, trivial⟩, fun g => ⟨rfl, rfl⟩, fun g => ⟨fun q => ⟨⟨c1, c2, fun j => fits_of_mk shC _, fun j => fits_of_mk shH _, trivial⟩, ?_⟩, fun q => ?_⟩⟩
    · have q : r = true := q
      exact ih (i + 1, IntKind.i64.wrap (n + greatE (shE.rd (shE.mk fun _ => List.getD l ((i : Int)).toNat (Sh.dflt shE)))), rightB (l.getD i e0)) (fun i => i) ⟨by show i + 1 ≤ l.length; omega, by show rightB (l.getD i e0) = _; rw [et, ← hr, q, Bool.true_and]⟩ (by show l.length - (i + 1) < l.length - i; omega) (by rfl) ⟨⟨rfl, hw⟩, impP_refl _, impP_refl _, congrArg rightB eE, ⟨rfl, rfl⟩, impP_refl _, impP_refl _, trivial⟩ trivial
    · have q : r = false := q
      exact ih (i + 1, IntKind.i64.wrap (n + greatE (shE.rd (shE.mk fun _ => List.getD l ((i : Int)).toNat (Sh.dflt shE)))), false) (fun i => i) ⟨by show i + 1 ≤ l.length; omega, by show false = _; rw [et, ← hr, q, Bool.false_and]⟩ (by show l.length - (i + 1) < l.length - i; omega) (by rfl) ⟨⟨rfl, hw⟩, impP_refl _, impP_refl _, rfl, ⟨rfl, rfl⟩, impP_refl _, impP_refl _, trivial⟩ trivial
  have h : ¬ (i : Int) < (l.length : Int) := of_decide_eq_false h
  have hr : r = l.all rightB := by rw [hr, List.take_of_length_le (by omega)]
  obtain ⟨p1, p2⟩ := parse_few s
  refine ⟨fun a => ⟨rfl, rfl⟩, fun a => ⟨fun b => ⟨rfl, rfl⟩, fun b => ?_⟩⟩
  have a : ¬ (100 : Int) < (l.length : Int) := of_decide_eq_false a
  have b : ¬ (600 : Int) < (s.size : Int) := of_decide_eq_false b
  refine ⟨⟨by show s.size ≤ 900000; omega, trivial⟩, ?_⟩
  refine tree_meet (bbA l r) [] 0 (by rfl) ?_ ?_
  · refine ⟨fun g => ⟨⟨hm1 (parseE s).1 (Nat.le_trans p1 (by decide)), hm2 (parseE s).1 (Nat.le_trans p2 (by decide)), fun j => fits_of_mk shC _, fun j => fits_of_mk shH _, trivial⟩, fun t => ?_, fun t => ⟨rfl, fun i => i, by rfl, ⟨impP_refl _, impP_refl _, trivial⟩, trivial⟩⟩, fun g => ⟨rfl, fun i => i, by rfl, ⟨impP_refl _, impP_refl _, trivial⟩, trivial⟩⟩
    have g : (parseE s).2 = true := g
    have t : ¬ textE (parseE s).1 = s := fun q => absurd ((congrArg textE (rd_mk shE fun _ => (parseE s).1)).trans q) (of_decide_eq_true t)
    exact absurd (parse_same g).1 t
  refine exploreB_ok (by first | exact ok _ | exact (ok _).at _ | exact (ok _).round _) (mkM_ok Fp4_ok emptyS_ok) (callB_ok emptyB_ok) (u := false) 60 (.any) _ rfl ?_
  conv => arg 5; cbv
  have eL : rdL shE.rd (fun _ => (l.length : Int)) (fun j => shE.mk fun _ => (l : List shE.val).getD (j ()).toNat shE.dflt) = l := rdL_mkL shE l
  have z1 : (rdL shE.rd (fun _ => (l.length : Int)) fun j => shE.mk fun _ => (l : List shE.val).getD (j ()).toNat shE.dflt).length ≤ 1000 := Nat.le_trans (Nat.le_of_eq (congrArg List.length eL)) (by show l.length ≤ 1000; omega)
  refine ⟨⟨z1, fun e he => h1 e (Eq.mp (congrArg (fun l : List EV => e ∈ l) eL) he), fun e he => h2 e (Eq.mp (congrArg (fun l : List EV => e ∈ l) eL) he), fun j => fits_of_mk shE _, trivial⟩, fun g => ⟨rfl, ?_⟩, fun g => ?_⟩
  · have g : (!r) = true := g
    refine (congrArg (fun l => decide (scriptE l = ByteArray.empty)) eL).trans (decide_eq_true ?_)
    refine script_wrong ?_
    rw [← hr]
    simpa using g
  have g : (!r) = false := g
  have hall : ∀ e ∈ l, rightB e = true := by
    have : l.all rightB = true := by rw [← hr]; simpa using g
    exact List.all_eq_true.1 this
  have hX : linesE (scriptE (rdL shE.rd (fun _ => (l.length : Int)) fun j => shE.mk fun _ => (l : List shE.val).getD (j ()).toNat shE.dflt)) = (l, 0, 0) := (congrArg (fun l => linesE (scriptE l)) eL).trans (lines_script hall h3 (by omega))
  refine ⟨⟨?_, trivial⟩, fun f => ?_, fun f => ⟨fun q => ?_, fun q => ?_⟩⟩
  · refine Nat.le_trans (Nat.le_of_eq (congrArg (fun l => (scriptE l).size) eL)) ?_
    have := script_size l ByteArray.empty
    show (scrG l ByteArray.empty).size ≤ 900000
    have e0 : ByteArray.empty.size = 0 := rfl
    omega
  · have : ((0 : Int) != 0) = true := (congrArg (fun x : List EV × Int × Int => x.2.2 != 0) hX).symm.trans f
    exact absurd this (by decide)
  · have : ((l.length : Int) != (l.length : Int)) = true := (congrArg (fun x : List EV × Int × Int => (x.1.length : Int) != (l.length : Int)) hX).symm.trans q
    simp at this
  refine run_inv (ι := Nat) (fun i => l.length - i) (fun i => i ≤ l.length) (bcA l) (fun _ => []) 0 0 (fun i => i) (by rfl) (by rfl) (Nat.zero_le _) ?_ ⟨impP_refl _, impP_refl _, evmkL_eq (esz := 9) (s := shE) (congrArg (fun x : List EV × Int × Int => x.1) hX), impP_refl _, trivial⟩ trivial
  intro i hi ih
  refine exploreB_ok (by first | exact ok _ | exact (ok _).at _ | exact (ok _).round _) (mkM_ok Fp4_ok emptyS_ok) (callB_ok emptyB_ok) (u := false) 60 (.any) _ rfl ?_
  conv => arg 5; cbv
  refine ⟨fun h => ?_, fun h => ⟨rfl, rfl⟩⟩
  have h : (i : Int) < (l.length : Int) := of_decide_eq_true h
  have hi2 : i < l.length := by omega
  have hw : IntKind.i64.wrap ((i : Int) + 1) = ((i + 1 : Nat) : Int) := by rw [IntWalk.i64_in _ ⟨by omega, by omega⟩]; omega
  have hm : l.getD i e0 ∈ l := by
    rw [List.getD_eq_getElem?_getD, List.getElem?_eq_getElem hi2]; exact List.getElem_mem hi2
  have eg : List.getD l ((i : Int)).toNat (Sh.dflt shE) = l.getD i e0 := by
    rw [Int.toNat_natCast]
    exact getD_any (α := EV) _ _ hi2
  have eg2 : ∀ (P : EV → Prop), P (l.getD i e0) → P (List.getD l ((i : Int)).toNat (Sh.dflt shE)) := fun P h => eg ▸ h
  have eE : shE.rd (shE.mk fun _ => List.getD l ((i : Int)).toNat (Sh.dflt shE)) = l.getD i e0 := (rd_mk shE _).trans eg
  have c1 := hm1 _ (eg2 (fun x => x.2.1.2.2.2.1.length ≤ 9223372036854775807) (h1 _ hm))
  have c2 := hm2 _ (eg2 (fun x => x.2.2.2.2.1.length ≤ 9223372036854775807) (h2 _ hm))
  have cr : (0 : Int) ≤ (i : Int) ∧ (i : Int) < (l.length : Int) := ⟨Int.natCast_nonneg i, h⟩
  refine ⟨⟨cr, cr, c1, c2, fun j => fits_of_mk shC _, fun j => fits_of_mk shH _, fun j => fits_of_mk shC _, fun j => fits_of_mk shH _, (by show drawOK _ _ = true; decide +kernel), trivial⟩, fun q => ?_, fun q => ?_⟩
  · have q : (!evB (l.getD i e0) (l.getD i e0)) = true := (congrArg (fun e => !evB e e) eE).symm.trans q
    rw [evB_iff.2 rfl] at q
    cases q
  · exact ih (i + 1) (fun i => i) (by show i + 1 ≤ l.length; omega) (by show l.length - (i + 1) < l.length - i; omega) (by rfl) ⟨⟨rfl, hw⟩, impP_refl _, impP_refl _, impP_refl _, trivial⟩ trivial
end Go.Proofs.YtpbjcabecalpaaaGreatDoor
namespace Go.Abs
theorem PFun.imp {P : Program} {G : Gs} {f : Nat} {args r r' : PV} (h : PFun P G f args r) (hi : impP r r') : PFun P G f args r' := by
  refine ⟨h.1, fun M w vs hG hI hr => (h.2 M w vs hG hI hr).mono ?_⟩
  rintro e w' ⟨M', ρ', v, g', rfl, h1, h2⟩
  exact ⟨M', ρ', v, g', rfl, h1, impP_ok _ _ hi h2⟩
end Go.Abs
namespace Go.Proofs.YtpbjcabecalpaaaGreatDoor
open Go Go.Abs Go.Proofs Go.ChangeShapes Go.WideShapes Go.ChangeAt Go.RowKit
theorem own : ownKnob Tryz.prog.godebug = none := by kernel_rfl
theorem laidOut : laidOutB Tryz.prog = true := by kernel_rfl
def rowLaid : List (String × DataW Unit) := Rows.eventsBackRow.laid
theorem star : "*" ++ "errors.errorString" = "*errors.errorString" := by decide
theorem facts_row {W : World} (hL : laidMetH Tryz.prog rowLaid W) (hS : W.ShapedOpen Tryz.prog) : GOK G0 (memOf W) := by
  have hL : laidMet Tryz.prog rowLaid W := hL
  refine ⟨fun g => ⟨rfl, _, rfl⟩, fun g hg => ?_, fun g hg => ?_, fun nm hn g hg => ?_⟩
  · obtain ⟨m, hm⟩ := Tryz.laysM219.s1_3 W hS
    obtain rfl : g = 0 := Option.some.inj (hg.symm.trans (show Tryz.prog.globalNamed "internal/bytealg.MaxLen" = some 0 by kernel_rfl))
    have hm : W.cell? ⟨0, 0, none⟩ = some (.int .i64 m) := hm
    unfold World.cell? at hm
    cases ho : W.heap[0]? with
    | none => rw [show (⟨0, 0, none⟩ : Addr).block = 0 from rfl, ho] at hm; cases hm
    | some o =>
      rw [show (⟨0, 0, none⟩ : Addr).block = 0 from rfl, ho] at hm
      cases o with
      | cells cs t fr => exact ⟨cs, t, fr, m, ho, by simpa using hm⟩
      | _ => cases hm
  · obtain rfl : g = 3 := Option.some.inj (hg.symm.trans (show Tryz.prog.globalNamed "internal/strconv.uint64pow10" = some 3 by kernel_rfl))
    have hT : Lib.TabIs Tryz.prog W "internal/strconv.uint64pow10" .u64 Lib.pow10Tab :=
      Lib.tabIs_of_head (rest := rowLaid.tail.tail.tail) hg (t := 81) (e := 77) (n := 20) (by kernel_rfl) (by kernel_rfl) (by kernel_rfl) (by kernel_rfl) (by kernel_rfl) (laidMet.tail (laidMet.tail hL))
    unfold Lib.TabIs World.var? at hT
    rw [hg] at hT
    have hT : (match W.heap[3]? with
      | some (Obj.cells cs _ _) => some cs
      | _ => none) = some (Lib.pow10Tab.map fun z => Value.int .u64 z).toArray := hT
    cases ho : W.heap[3]? with
    | none => rw [ho] at hT; cases hT
    | some o =>
      rw [ho] at hT
      cases o with
      | cells cs t fr => exact ⟨t, fr, ho.trans (by rw [Option.some.inj hT])⟩
      | _ => cases hT
  · have row : ∀ u, Tryz.prog.typeName? 3 u = some "*errors.errorString" → u = 210 := fun u h => typeName_ptr_named (P := Tryz.prog) (nm := "errors.errorString") (by rw [star]; kernel_rfl) (by kernel_rfl) (by decide) u (by rw [star]; exact h)
    have hv : ∃ tp p, W.var? Tryz.prog nm = some #[.iface tp p] := by
      have h5 := laidMet.tail (laidMet.tail (laidMet.tail (laidMet.tail hL)))
      rcases hn with rfl | rfl
      · obtain ⟨a, s, h, _⟩ := laid_sentinel (g := 1) (laidMet.tail h5) (by kernel_rfl) (by kernel_rfl) Tryz.underlying98 row Tryz.underlying210 Tryz.underlying212 rfl rfl Tryz.underlying9 (by kernel_rfl) (by kernel_rfl)
        exact ⟨_, _, h⟩
      · obtain ⟨a, s, h, _⟩ := laid_sentinel (g := 2) h5 (by kernel_rfl) (by kernel_rfl) Tryz.underlying98 row Tryz.underlying210 Tryz.underlying212 rfl rfl Tryz.underlying9 (by kernel_rfl) (by kernel_rfl)
        exact ⟨_, _, h⟩
    obtain ⟨tp, p, hv⟩ := hv
    unfold World.var? at hv
    rw [hg] at hv
    have hv : (match W.heap[g]? with
      | some (Obj.cells cs _ _) => some cs
      | _ => none) = some #[.iface tp p] := hv
    cases ho : W.heap[g]? with
    | none => rw [ho] at hv; cases hv
    | some o =>
      rw [ho] at hv
      cases o with
      | cells cs t fr => exact ⟨tp, p, t, fr, ho.trans (by rw [Option.some.inj hv])⟩
      | _ => cases hv
theorem ts_i {t : TypeId} (h : Tryz.prog.underlying t = some (.int .i64)) : TS Tryz.prog (.int .i64) (.inl t) := h
theorem ts_str : TS Tryz.prog .str (.inl 9) := (show Tryz.prog.underlying _ = _ by kernel_rfl)
theorem ts_vec : TS Tryz.prog shVe (.inl 45) := by
  refine ⟨_, Tryz.underlying45, by kernel_rfl, ?_⟩
  exact ⟨rfl, by kernel_rfl, (show Tryz.prog.underlying _ = _ by kernel_rfl), rfl, by kernel_rfl, (show Tryz.prog.underlying _ = _ by kernel_rfl), rfl, by kernel_rfl, (show Tryz.prog.underlying _ = _ by kernel_rfl), trivial⟩
theorem ts_res : TS Tryz.prog (.arrB 3) (.inl 48) := ⟨4, by kernel_rfl, by kernel_rfl, by kernel_rfl, by kernel_rfl⟩
theorem ts_con : TS Tryz.prog shC (.inl 50) := by
  refine ⟨_, Tryz.underlying50, by kernel_rfl, ?_⟩
  exact ⟨rfl, by kernel_rfl, ts_str, rfl, by kernel_rfl, ts_vec, rfl, by kernel_rfl, ts_vec, rfl, by kernel_rfl, ts_res, trivial⟩
theorem ts_cons : TS Tryz.prog (.slice 10 shC) (.inl 22) := ⟨50, by kernel_rfl, by kernel_rfl, by decide, ts_con⟩
theorem ts_pod : TS Tryz.prog shP (.inl 24) := by
  refine ⟨_, Tryz.underlying24, by kernel_rfl, ?_⟩
  exact ⟨rfl, by kernel_rfl, ts_str, rfl, by kernel_rfl, ts_i (by kernel_rfl), rfl, by kernel_rfl, ts_i (by kernel_rfl), rfl, by kernel_rfl, ts_cons, trivial⟩
theorem ts_chg : TS Tryz.prog shH (.inl 47) := by
  refine ⟨_, Tryz.underlying47, by kernel_rfl, ?_⟩
  exact ⟨rfl, by kernel_rfl, ts_str, rfl, by kernel_rfl, ts_vec, rfl, by kernel_rfl, ts_vec, trivial⟩
theorem ts_chgs : TS Tryz.prog (.slice 7 shH) (.inl 25) := ⟨47, by kernel_rfl, by kernel_rfl, by decide, ts_chg⟩
theorem ts_ev : TS Tryz.prog shE (.inl 27) := by
  refine ⟨_, Tryz.underlying27, by kernel_rfl, ?_⟩
  exact ⟨rfl, by kernel_rfl, ts_i (by kernel_rfl), rfl, by kernel_rfl, ts_pod, rfl, by kernel_rfl, ts_str, rfl, by kernel_rfl, ts_str, rfl, by kernel_rfl, ts_chgs, rfl, by kernel_rfl, ts_i (by kernel_rfl), trivial⟩
theorem ts_evs : TS Tryz.prog (.slice 9 shE) (.inl 35) := ⟨27, by kernel_rfl, by kernel_rfl, by decide, ts_ev⟩
theorem ev_ok {e : EV} (h : shE.okV e) : e.2.1.2.2.2.1.length ≤ 9223372036854775807 ∧ e.2.2.2.2.1.length ≤ 9223372036854775807 ∧ res3 e := by
  obtain ⟨k, ⟨nm, pr, po, l, ⟨⟩⟩, s, c, hs, n, ⟨⟩⟩ := e
  have hx : Go.maxLen ≤ 9223372036854775807 := by decide
  have h1 : List.length (α := CV) l ≤ Go.maxLen ∧ allL (α := CV) (fun x => shC.okV x) l := h.2.1.2.2.2.1
  have h2 : List.length (α := HV) hs ≤ Go.maxLen := h.2.2.2.2.1.1
  refine ⟨Nat.le_trans h1.1 hx, Nat.le_trans h2 hx, fun c hc => ?_⟩
  obtain ⟨i, hi⟩ := List.getElem?_of_mem hc
  exact (h1.2 i c hi).2.2.2.1
theorem evs_ok {l : List EV} (h : (Sh.slice 9 shE).okV l) : l.length ≤ 9223372036854775807 ∧ (∀ e ∈ l, e.2.1.2.2.2.1.length ≤ 9223372036854775807) ∧ (∀ e ∈ l, e.2.2.2.2.1.length ≤ 9223372036854775807) ∧ ∀ e ∈ l, res3 e := by
  have hx : Go.maxLen ≤ 9223372036854775807 := by decide
  have h : List.length (α := EV) l ≤ Go.maxLen ∧ allL (α := EV) (fun x => shE.okV x) l := h
  have k : ∀ e ∈ l, shE.okV e := fun e he => by
    obtain ⟨i, hi⟩ := List.getElem?_of_mem he
    exact h.2 i e hi
  exact ⟨Nat.le_trans h.1 hx, fun e he => (ev_ok (k e he)).1, fun e he => (ev_ok (k e he)).2.1, fun e he => (ev_ok (k e he)).2.2⟩
noncomputable def laidWorld (os : Os) : World := World.laidAll Tryz.prog os rowLaid
theorem laid_met (os : Os) (args : Array Value) : laidMet Tryz.prog rowLaid ((laidWorld os).forCall (fun _ _ => 0) ⟨#[], args, []⟩).memory :=
  laidMet_laidAll args (by kernel_rfl) (by kernel_rfl)
end Go.Proofs.YtpbjcabecalpaaaGreatDoor
