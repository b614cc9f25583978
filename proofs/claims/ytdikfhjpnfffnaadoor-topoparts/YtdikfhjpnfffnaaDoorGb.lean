/- THE LOGIC OF ABSTRACT VALUES, a part of it: what the walks of this claim stand on. -/
import Derived.Test.YtdikfhjpnfffnaaDoorGa
import Derived.Laws.AppendOwn
import Derived.Below
import Derived.IntWalk
set_option maxRecDepth 2000
set_option linter.unusedVariables false
set_option linter.unusedSimpArgs false
/- REGIONS (3): the theorem. -/
set_option linter.unusedVariables false
set_option linter.unusedSimpArgs false
namespace Go.Abs
variable {P : Program}

/-- What the package's variables read as is right. -/
theorem ofValue_rel (M : Mem) (ρ : Names) (v : Value) : rel M (ofValue v) ρ .val [v] := by
  cases v
  case bool b => cases b <;> exact ⟨by simp, rfl⟩
  case int k n => exact ⟨by simp, rfl⟩
  case string s => exact ⟨by simp, rfl⟩
  case pointer a => cases a with
    | none => exact ⟨by simp, rfl⟩
    | some a => exact ⟨rfl, _, rfl⟩
  case slice a n c => cases a with
    | none =>
      show rel M (bif beqN n 0 && beqN c 0 then .nils else .undef) ρ .val _
      cases h : (beqN n 0 && beqN c 0) with
      | true =>
        simp only [Bool.and_eq_true, beq_iff_eq] at h
        obtain ⟨rfl, rfl⟩ := h
        exact ⟨by simp, rfl⟩
      | false => exact ⟨rfl, _, rfl⟩
    | some a => exact ⟨rfl, _, rfl⟩
  case map r => cases r with
    | none => exact ⟨by simp, rfl⟩
    | some r => exact ⟨rfl, _, rfl⟩
  case nilFunc => exact ⟨by simp, rfl⟩
  case nilIface => exact ⟨by simp, rfl⟩
  all_goals exact ⟨rfl, _, rfl⟩

/-- The slots read as the environment says. -/
structure RelA (M : Mem) (ρ : Names) (N : Nat) (A : Nat → PV) (a : Act) : Prop where
  slot : ∀ t, rel M (A t) ρ .val [a.tmps.getD t Go.undef]
  size : a.tmps.size = N
  defers : a.defers = []

theorem RelA.mono {M M' : Mem} {ρ ρ' : Names} {N : Nat} {A : Nat → PV} {a : Act} (h : RelA M ρ N A a) (hM : M.le M') (hρ : ρ.le ρ') : RelA M' ρ' N A a :=
  ⟨fun t => rel_mono hM _ hρ (h.slot t), h.size, h.defers⟩

theorem RelA.opnd {G : Nat → PV} {M : Mem} {ρ : Names} {N : Nat} {A : Env} {a : Act} (h : RelA M ρ N A.get a) (hG : GOK G M) (x : Operand) : rel M (opnd G A x) ρ .val [a.eval x] := by
  cases x with
  | tmp t => exact h.slot t
  | const v => exact ofValue_rel M ρ v
  | global g => exact rel_mono (Mem.le_refl _) _ (noNames_le ρ) (hG g)
  | func f => exact ⟨[], [], ⟨by simp, rfl⟩, ⟨by simp, rfl⟩, ⟨by simp, rfl⟩⟩

theorem RelA.put {M : Mem} {ρ : Names} {N : Nat} {A : Nat → PV} {a : Act} (h : RelA M ρ N A a) {d : Option Nat} (hd : slotOK N d = true) {pv : PV} {v : Value} (hv : rel M pv ρ .val [v]) :
    RelA M ρ N (fun t => if d = some t then pv else A t) (a.put d v) := by
  cases d with
  | none => exact ⟨fun t => (by rw [if_neg (by simp)]; exact h.slot t), h.size, h.defers⟩
  | some d =>
    simp only [slotOK, decide_eq_true_eq] at hd
    refine ⟨fun t => ?_, by simpa [Act.put] using h.size, h.defers⟩
    simp only [Option.some.injEq, Act.put]
    by_cases ht : d = t
    · subst ht
      rw [if_pos rfl, Array.getD_eq_getD_getElem?, Array.getElem?_setIfInBounds_self_of_lt (by rw [h.size]; exact hd)]
      exact hv
    · rw [if_neg ht, Array.getD_eq_getD_getElem?, Array.getElem?_setIfInBounds_ne ht, ← Array.getD_eq_getD_getElem?]
      exact h.slot t

theorem OpR.wp {a : Act} {o : Oper} {w : World} {R : Value → World → Prop} {K : Act → World → Prop} {Q : Exit → Act → World → Prop} (h : OpR P a.eval o w R) (hK : ∀ v w', R v w' → K (a.put o.dst v) w') :
    o.wp P a w K Q := by
  unfold OpR at h
  unfold Oper.wp
  generalize (execOp a.eval o).run P w = r at *
  split at h
  · exact hK _ _ h
  · exact hK _ _ h
  · exact h.mono fun e w' ⟨v, h1, h2⟩ => by subst h1; exact hK _ _ h2
  · exact h.mono fun v w' hv => hK _ _ hv
  · exact h.elim

theorem wanted_of {M : Mem} {ρ : Names} {N : Nat} {A : Env} {ops : Array Oper} {a : Act} {o : Oper} (hs : ∀ g w, o.guard = some (g, w) → ∀ og d, ops[g]? = some og → og.dst = some d → rel M (A.get d) ρ .val [a.tmps.getD d Go.undef])
    {b : Bool} (h : GuardP ops A o.guard b) : Region.wanted o (yielded ops a.tmps) = b := by
  unfold GuardP at h
  unfold Region.wanted
  cases hg : o.guard with
  | none => rw [hg] at h; simpa using h.symm
  | some q =>
    obtain ⟨j, want⟩ := q
    rw [hg] at h
    obtain ⟨oj, d, hoj, hd, ht⟩ := h
    have hy : ∀ q : Bool, a.tmps.getD d Go.undef = .bool q → yielded ops a.tmps j = some q := by
      intro q hq
      unfold yielded
      rw [hoj, Option.bind_some, hd, Option.bind_some]
      rw [Array.getD_eq_getD_getElem?] at hq
      cases hx : a.tmps[d]? with
      | none => rw [hx] at hq; cases hq
      | some v => rw [hx] at hq; simp only [Option.getD_some] at hq; subst hq; rfl
    rcases ht with ht | ⟨rfl, ht⟩
    · have hq := ht _ _ _ (hs j want hg oj d hoj hd)
      simp only
      rw [hy _ hq]
      cases b <;> cases want <;> rfl
    · have hq := ht _ _ _ (hs j want hg oj d hoj hd)
      have hn : yielded ops a.tmps j = none := by
        unfold yielded
        rw [hoj, Option.bind_some, hd, Option.bind_some]
        rw [Array.getD_eq_getD_getElem?] at hq
        cases hx : a.tmps[d]? with
        | none => rfl
        | some v =>
          rw [hx] at hq
          simp only [Option.getD_some] at hq
          cases v with
          | bool b => exact absurd rfl (hq b)
          | _ => rfl
      simp only
      rw [hn]
      rfl

theorem Adv.range {M ρ g w n n' M' ρ' g' w'} (h : Adv M ρ g w n n' M' ρ' g' w') {m m' : Nat} (h1 : m ≤ n) (h2 : n' ≤ m') : Adv M ρ g w m m' M' ρ' g' w' :=
  { h with fresh := fun id a b => by have := h.fresh id a b; omega }

theorem Adv.then {M ρ g w n n' M1 ρ1 g1 w1 M2 ρ2 g2 w2} (h : Adv M ρ g w n n' M1 ρ1 g1 w1) (k : Adv M1 ρ1 g1 w1 n n' M2 ρ2 g2 w2) : Adv M ρ g w n n' M2 ρ2 g2 w2 where
  mem := Mem.le_trans h.mem k.mem
  names := Names.le_trans h.names k.names
  fresh := fun id h0 h2 => by
    by_cases h' : ρ1 id = none
    · exact k.fresh id h' h2
    · exact h.fresh id h0 h'
  os := k.os.trans h.os
  tape := k.tape.trans h.tape
  output := k.output.trans h.output
  size := Nat.le_trans h.size k.size
  heap := fun b hb ho => by
    rw [k.heap b (by have := h.size; omega) (fun ho1 => by rcases h.blks b ho1 with h' | h'; omega; exact ho h'), h.heap b hb ho]
  blks := fun b ho => by
    rcases k.blks b ho with h' | h'
    · exact .inl (by have := h.size; omega)
    · exact h.blks b h'
  mnew := fun b i h2 h0 => by
    by_cases h' : M1 b i = none
    · rcases k.mnew b i h2 h' with h'' | h''
      · exact .inl (by have := h.size; omega)
      · exact h.blks b h''
    · exact h.mnew b i h' h0

/-! ### The theorem -/
section
variable {G : Nat → PV} {N : Nat} {ops : Array Oper} {st : Nat → St} {ef : Nat → Option Eff}

structure RI (P : Program) (G : Nat → PV) (N : Nat) (ops : Array Oper) (st : Nat → St) (ef : Nat → Option Eff) (M0 : Mem) (ρ0 : Names) (w0 : World) (L : Nat → Bool) (a : Act) (w : World) (M : Mem) (ρ : Names) : Prop where
  inv : Inv M ρ (gof (st 0).S.get ef L ops.size) w
  env : RelA M ρ N (Aof ops (st 0).A.get ef L ops.size) a
  adv : Adv M0 ρ0 (st 0).S.get w0 (st 0).n (st ops.size).n M ρ (gof (st 0).S.get ef L ops.size) w
  free : ∀ id, ρ id ≠ none → ρ0 id ≠ none ∨ ∃ j, j < ops.size ∧ L j = true ∧ (st j).n ≤ id ∧ id < (st (j + 1)).n

theorem n_mono (h : ∀ j, j < ops.size → TStep P G N ops j (st j) (ef j) (st (j + 1))) : ∀ i j, i ≤ j → j ≤ ops.size → (st i).n ≤ (st j).n := by
  intro i j hij
  induction j with
  | zero =>
            intro _
            have e : i = 0 := by omega
            rw [e]; exact Nat.le_refl _
  | succ j ih =>
    intro hj
    rcases Nat.eq_or_lt_of_le hij with e | hlt
    · subst e; exact Nat.le_refl _
    · refine Nat.le_trans (ih (by omega) (by omega)) ?_
      obtain ⟨o, _, _, hx⟩ := h j (by omega)
      cases he : ef j with
      | none => rw [he] at hx; rw [hx.2]; exact Nat.le_refl _
      | some E => rw [he] at hx; rw [hx.2.2.2]; exact hx.2.1.1

theorem round (hT : ∀ j, j < ops.size → TStep P G N ops j (st j) (ef j) (st (j + 1))) (hefN : ∀ j, ops.size ≤ j → ef j = none) (hd : DrawOK ops ef) {M0 : Mem} {ρ0 : Names} {w0 : World} (hG : GOK G M0) (hn0 : ∀ id, (st 0).n ≤ id → ρ0 id = none)
    {L : Nat → Bool} {i : Nat} (hf : Fit ops ef L i) (hi : i < ops.size) {a : Act} {w : World} {M : Mem} {ρ : Names} (hR : RI P G N ops st ef M0 ρ0 w0 L a w M ρ) {Q : Exit → Act → World → Prop} {K : Act → World → Prop}
    (hK : ∀ a' w' M' ρ', RI P G N ops st ef M0 ρ0 w0 (more L i) a' w' M' ρ' → K a' w') : wpOp P ops Q i K a w := by
  obtain ⟨o, ho, hs, hx⟩ := hT i hi
  obtain ⟨tA, tS, _⟩ := text_state hT i (by omega)
  have hwN : ∀ j id, writes ef j id → j < ops.size := by
    intro j id ⟨E, hE, _⟩
    rcases Nat.lt_or_ge j ops.size with h | h
    · exact h
    · rw [hefN j h] at hE; cases hE
  have hslot : ∀ t, (t ∈ o.looksAt ops ∨ o.dst = some t) → Aof ops (st 0).A.get ef L ops.size t = (st i).A.get t := by
    intro t ht
    rw [Aof_at (hf.slot hd ho ht), show min ops.size i = i by omega, tA]
  have hopnd : ∀ x ∈ o.op.operands.toList, rel M (opnd G (st i).A x) ρ .val [a.eval x] := by
    intro x hx
    cases x with
    | tmp t =>
      have : t ∈ o.looksAt ops := by
        unfold Oper.looksAt
        exact List.mem_append_left _ (List.mem_filterMap.2 ⟨.tmp t, hx, rfl⟩)
      have h1 := hR.env.slot t
      rw [hslot t (.inl this)] at h1
      exact h1
    | const v => exact ofValue_rel M ρ v
    | global g => exact rel_mono (Mem.le_refl _) _ (noNames_le ρ) ((hG.mono hR.adv.mem) g)
    | func f => exact ⟨[], [], ⟨by simp, rfl⟩, ⟨by simp, rfl⟩, ⟨by simp, rfl⟩⟩
  have hguard : ∀ b, GuardP ops (st i).A o.guard b → Region.wanted o (yielded ops a.tmps) = b := by
    intro b hb
    refine wanted_of (M := M) (ρ := ρ) (N := N) (fun g w' hg og d hog hdd => ?_) hb
    have : d ∈ o.looksAt ops := by
      unfold Oper.looksAt
      rw [hg]
      refine List.mem_append_right _ ?_
      simp [hog, hdd]
    have h1 := hR.env.slot d
    rw [hslot d (.inl this)] at h1
    exact h1
  have henv : ∀ {M' : Mem} {ρ' : Names} {v : Value}, M.le M' → ρ.le ρ' → rel M' (valOf (ef i)) ρ' .val [v] → RelA M' ρ' N (Aof ops (st 0).A.get ef (more L i) ops.size) (a.put o.dst v) := by
    intro M' ρ' v hM hρ hv
    have h1 := (hR.env.mono hM hρ).put hs hv
    have h2 : (fun t => if o.dst = some t then valOf (ef i) else Aof ops (st 0).A.get ef L ops.size t) = Aof ops (st 0).A.get ef (more L i) ops.size := by
      funext t
      rw [Aof_more hf.not (fun hdt j hj hdj => ?_)]
      · have : dstOf ops i = o.dst := by simp [dstOf, ho]
        rw [this]
        simp [hi]
      · have hdi : o.dst = some t := by simpa [dstOf, ho] using hdt
        exact ((hf.slot hd ho (.inr hdi)) j hdj).2 (by omega)
    rw [h2] at h1
    exact h1
  unfold wpOp
  simp only [ho]
  cases he : ef i with
  | none =>
    rw [he] at hx
    have hw := hguard false hx.1
    rw [hw]
    simp only [Bool.false_eq_true, if_false]
    have hg : gof (st 0).S.get ef (more L i) ops.size = gof (st 0).S.get ef L ops.size := by
      funext id
      rw [gof_more hf.not (fun hw => by obtain ⟨E, hE, _⟩ := hw; rw [he] at hE; cases hE)]
      simp [hi, he]
    refine hK _ _ M ρ ⟨by rw [hg]; exact hR.inv, henv (Mem.le_refl _) (Names.le_refl _) (by rw [he]; exact ⟨rfl, [], rfl, by simp, rfl⟩), by rw [hg]; exact hR.adv, fun id hid => ?_⟩
    rcases hR.free id hid with h | ⟨j, h1, h2, h3⟩
    · exact .inl h
    · exact .inr ⟨j, h1, by simp [more, h2], h3⟩
  | some E =>
    rw [he] at hx
    obtain ⟨hgd, hE, hC, hst⟩ := hx
    have hw := hguard true hgd
    rw [hw]
    simp only [if_true]
    left
    have hobj : ∀ id, (id ∈ E.F ∨ ∃ x ∈ E.W, x.1 = id) → gof (st 0).S.get ef L ops.size id = (st i).S.get id := by
      intro id hid
      rw [gof_at (hf.object hd ho he hid (hwN · id)), show min ops.size i = i by omega, tS]
    have honly : only (gof (st 0).S.get ef L ops.size) E.F = only (st i).S.get E.F := by
      funext id
      unfold only
      split
      · rename_i hid; exact hobj id (.inl hid)
      · rfl
    have hnn : (st (i + 1)).n = E.n := by rw [hst]
    have hfree : ∀ id, (st i).n ≤ id → id < E.n → ρ id = none := by
      intro id h1 h2
      cases hρ : ρ id with
      | none => rfl
      | some v =>
        exfalso
        rcases hR.free id (by simp [hρ]) with h | ⟨j, hj, hLj, h3, h4⟩
        · exact h (hn0 id (Nat.le_trans (n_mono hT 0 i (by omega) (by omega)) h1))
        · rcases Nat.lt_trichotomy j i with h | h | h
          · have := n_mono hT (j + 1) i (by omega) (by omega); omega
          · subst h; rw [hf.not] at hLj; cases hLj
          · have := n_mono hT (i + 1) j (by omega) (by omega); omega
    have hI := hR.inv.only E.F
    rw [honly] at hI
    have hrun := hE.2.2 o M ρ w a.eval rfl (fun _ => rfl) hI hfree hopnd hC (hG.mono hR.adv.mem)
    refine hrun.wp fun v w' ⟨M', ρ', hA, hI', hv⟩ => ?_
    rw [← honly] at hA hI'
    obtain ⟨k1, k2⟩ := frame hR.inv hA hI' hfree
    have hgeq : over E.F (st i).n E.n (updW (only (gof (st 0).S.get ef L ops.size) E.F) E.W) (gof (st 0).S.get ef L ops.size) = gof (st 0).S.get ef (more L i) ops.size := by
      funext id
      rw [gof_more hf.not (fun hw j hj hwj => ((hf.object hd ho he (by obtain ⟨E', hE', hx⟩ := hw; rw [he] at hE'; cases hE'; exact .inr hx) (hwN · id)) j hwj).2 (by omega))]
      simp only [hi, if_true, he]
      unfold over
      split
      · rename_i hid
        rw [updW_wv]
        cases hwv : wv E.W id with
        | some o' => rfl
        | none =>
          simp only [Option.getD_none]
          unfold only
          split
          · rfl
          · rename_i hnF
            rcases hid with hid | hid
            · exact absurd hid hnF
            · cases hgo : gof (st 0).S.get ef L ops.size id with
              | none => rfl
              | some o' =>
                obtain ⟨v', hv', _⟩ := hR.inv.obj id o' hgo
                rw [hfree id hid.1 hid.2] at hv'; cases hv'
      · rename_i hid
        rw [wv_none (fun x hx e => hid ?_)]
        · rfl
        · rcases hE.2.1 x hx with h | h
          · exact .inl (e ▸ h)
          · exact .inr (e ▸ h)
    rw [hgeq] at k1 k2
    have hb1 := n_mono hT 0 i (by omega) (by omega)
    have hb2 := n_mono hT (i + 1) ops.size (by omega) (by omega)
    refine hK _ _ M' ρ' ⟨k1, henv hA.mem hA.names (by rw [he]; exact hv), ?_, fun id hid => ?_⟩
    · have hn1 := hE.1
      have t1 : Adv M ρ (gof (st 0).S.get ef L ops.size) w (st 0).n (st ops.size).n M' ρ' (gof (st 0).S.get ef (more L i) ops.size) w' := k2.range hb1 (by omega)
      exact hR.adv.then t1
    · by_cases hρ : ρ id = none
      · have := hA.fresh id hρ hid
        exact .inr ⟨i, hi, by simp [more], by rw [hnn]; exact this⟩
      · rcases hR.free id hρ with h | ⟨j, h1, h2, h3⟩
        · exact .inl h
        · exact .inr ⟨j, h1, by simp [more, h2], h3⟩
end
end Go.Abs
/- REGIONS (4): the theorem in the machine's words. -/
set_option linter.unusedVariables false
set_option linter.unusedSimpArgs false
namespace Go.Abs
variable {P : Program}

theorem countP_less {α : Type} [DecidableEq α] (p p' : α → Bool) (i : α) (hp : p i = true) (h : ∀ j, p' j = (p j && decide (j ≠ i))) : ∀ l : List α, l.Nodup → i ∈ l → l.countP p' + 1 = l.countP p
  | [], _, hi => by cases hi
  | x :: l, hn, hi => by
    obtain ⟨hx, hn'⟩ := List.nodup_cons.1 hn
    rcases List.mem_cons.1 hi with e | hi'
    · subst e
      have : l.countP p' = l.countP p := by
        apply List.countP_congr
        intro j hj
        have : j ≠ i := fun e => hx (e ▸ hj)
        rw [h]; simp [this]
      rw [List.countP_cons, List.countP_cons, this]
      simp [h, hp]
    · have ih := countP_less p p' i hp h l hn' hi'
      have hxi : x ≠ i := fun e => hx (e ▸ hi')
      rw [List.countP_cons, List.countP_cons]
      have : p' x = p x := by rw [h]; simp [hxi]
      rw [this]
      omega

def Lof (listed : Array Bool) : Nat → Bool := fun j => listed.getD j false

section
variable {G : Nat → PV} {N : Nat} {ops : Array Oper} {st : Nat → St} {ef : Nat → Option Eff}

theorem Aof_congr {A0 : Nat → PV} {L L' : Nat → Bool} (m t : Nat) (h : ∀ j, j < m → L j = L' j) : Aof ops A0 ef L m t = Aof ops A0 ef L' m t := by
  induction m with
  | zero => rfl
  | succ m ih => rw [Aof, Aof, ih (fun j hj => h j (by omega)), h m (by omega)]
theorem gof_congr {g0 : Sto} {L L' : Nat → Bool} (m : Nat) (h : ∀ j, j < m → L j = L' j) : gof g0 ef L m = gof g0 ef L' m := by
  induction m with
  | zero => rfl
  | succ m ih =>
    funext id
    rw [gof, gof, ih (fun j hj => h j (by omega)), h m (by omega)]

theorem RI.congr {M0 ρ0 w0 L L' a w M ρ} (h : RI P G N ops st ef M0 ρ0 w0 L a w M ρ) (hL : ∀ j, j < ops.size → L j = L' j) : RI P G N ops st ef M0 ρ0 w0 L' a w M ρ := by
  have e1 : gof (st 0).S.get ef L ops.size = gof (st 0).S.get ef L' ops.size := gof_congr _ hL
  have e2 : Aof ops (st 0).A.get ef L ops.size = Aof ops (st 0).A.get ef L' ops.size := funext fun t => Aof_congr _ t hL
  refine ⟨by rw [← e1]; exact h.inv, by rw [← e2]; exact h.env, by rw [← e1]; exact h.adv, fun id hid => ?_⟩
  rcases h.free id hid with h1 | ⟨j, h1, h2, h3⟩
  · exact .inl h1
  · exact .inr ⟨j, h1, by rw [← hL j h1]; exact h2, h3⟩

theorem any_of (hT : ∀ j, j < ops.size → TStep P G N ops j (st j) (ef j) (st (j + 1))) (hefN : ∀ j, ops.size ≤ j → ef j = none) (hd : DrawOK ops ef) {M0 : Mem} {ρ0 : Names} {w0 : World} (hG : GOK G M0) (hn0 : ∀ id, (st 0).n ≤ id → ρ0 id = none)
    {Q : Exit → Act → World → Prop} (hQ : ∀ a w M ρ, RI P G N ops st ef M0 ρ0 w0 (fun _ => true) a w M ρ → Q .normal a w) :
    ∀ (fuel : Nat) (listed : Array Bool) (a : Act) (w : World) (M : Mem) (ρ : Names), listed.size = ops.size → (List.range ops.size).countP (fun j => !Lof listed j) ≤ fuel → Closed ops (Lof listed) →
      RI P G N ops st ef M0 ρ0 w0 (Lof listed) a w M ρ → wpAny P .any ops Q fuel listed a w := by
  have hall : ∀ listed : Array Bool, listed.size = ops.size → Closed ops (Lof listed) → Region.ready .any ops listed = [] → ∀ j, j < ops.size → Lof listed j = true := by
    intro listed hsz hcl hr j
    induction j using Nat.strongRecOn with
    | _ j ih =>
      intro hj
      cases hl : Lof listed j with
      | true => rfl
      | false =>
        exfalso
        have hoj : ops[j]? = some ops[j] := Array.getElem?_eq_getElem hj
        have : j ∈ Region.ready .any ops listed := by
          refine mem_ready.2 ⟨?_, ops[j], hoj, fun e he hb => ?_⟩
          · unfold Lof at hl
            rw [Array.getD_eq_getD_getElem?, Array.getElem?_eq_getElem (by omega)] at hl ⊢
            simpa using hl
          · have he' := Array.mem_toList_iff.2 he
            exact ih e.on (hd.edge j _ e hoj he' hb) (by have := hd.edge j _ e hoj he' hb; omega)
        rw [hr] at this; cases this
  intro fuel
  induction fuel with
  | zero =>
    intro listed a w M ρ hsz hc hcl hR
    have hL : ∀ j, j < ops.size → Lof listed j = true := by
      intro j hj
      have := List.countP_eq_zero.1 (Nat.le_zero.1 hc) j (List.mem_range.2 hj)
      simpa using this
    refine ⟨?_, hQ a w M ρ (hR.congr fun j hj => by rw [hL j hj])⟩
    cases hr : Region.ready .any ops listed with
    | nil => rfl
    | cons i rs =>
      exfalso
      obtain ⟨h1, o, ho, _⟩ := mem_ready.1 (show i ∈ Region.ready .any ops listed by rw [hr]; simp)
      have := hL i (lt_of_get ho)
      unfold Lof at this
      have hlt := lt_of_get ho
      rw [Array.getD_eq_getD_getElem?, Array.getElem?_eq_getElem (by omega)] at h1 this
      simp only [Option.getD_some] at h1 this
      rw [h1] at this; cases this
  | succ fuel ih =>
    intro listed a w M ρ hsz hc hcl hR
    refine ⟨fun hr => hQ a w M ρ (hR.congr fun j hj => by rw [hall listed hsz hcl hr j hj]), fun i hi => ?_⟩
    obtain ⟨h1, o, ho, hed⟩ := mem_ready.1 hi
    have hlt := lt_of_get ho
    have hLi : Lof listed i = false := by
      unfold Lof
      rw [Array.getD_eq_getD_getElem?, Array.getElem?_eq_getElem (by omega)] at h1 ⊢
      simpa using h1
    have hmore : more (Lof listed) i = Lof (listed.setIfInBounds i true) := by
      funext j
      unfold more Lof
      by_cases hj : j = i
      · subst hj
        simp [Array.getD_eq_getD_getElem?, Array.getElem?_setIfInBounds_self_of_lt (by omega : j < listed.size)]
      · simp [Array.getD_eq_getD_getElem?, Array.getElem?_setIfInBounds_ne (Ne.symm hj), hj]
    have hf : Fit ops ef (Lof listed) i := ⟨hcl, hLi, fun o' e ho' he hb => by
      obtain rfl : o = o' := Option.some.inj (ho.symm.trans ho')
      exact hed e (Array.mem_toList_iff.1 he) hb⟩
    refine round hT hefN hd hG hn0 hf hlt hR fun a' w' M' ρ' hR' => ?_
    rw [hmore] at hR'
    refine ih _ a' w' M' ρ' (by simpa using hsz) ?_ (fun j o' e ho' hj he hb => ?_) hR'
    · have := countP_less (fun j => !Lof listed j) (fun j => !Lof (listed.setIfInBounds i true) j) i (by simp [hLi]) (fun j => by
        rw [← hmore]; simp [more]) (List.range ops.size) List.nodup_range (List.mem_range.2 hlt)
      omega
    · rw [← hmore] at hj ⊢
      simp only [more, Bool.or_eq_true, decide_eq_true_eq] at hj ⊢
      rcases hj with hj | hj
      · exact .inl (hcl j o' e ho' hj he hb)
      · subst hj
        obtain rfl : o = o' := Option.some.inj (ho.symm.trans ho')
        exact .inl (hed e (Array.mem_toList_iff.1 he) hb)
end

/-- What a region leaves. -/
structure After (P : Program) (G : Nat → PV) (N : Nat) (M0 : Mem) (ρ0 : Names) (w0 : World) (S0 : Store) (n0 : Nat) (A : Env) (S : Store) (n : Nat) (a : Act) (w : World) (M : Mem) (ρ : Names) : Prop where
  inv : Inv M ρ S.get w
  env : RelA M ρ N A.get a
  adv : Adv M0 ρ0 S0.get w0 n0 n M ρ S.get w
  free : ∀ id, n ≤ id → ρ id = none
  le : n0 ≤ n

/-- A region that draws its order. -/
theorem region_draw (hm : P.follows .mixedOrders = true) {G : Nat → PV} {N : Nat} {ops : Array Oper} {K : Env → Store → Nat → List (List Nat × List Nat) → Prop} {A : Env} {S : Store} {n : Nat}
    (h : TR P G N ops K 0 A S n []) {M : Mem} {ρ : Names} {w : World} {a : Act} (hI : Inv M ρ S.get w) (hA : RelA M ρ N A.get a) (hG : GOK G M) (hn : ∀ id, n ≤ id → ρ id = none) (hK : ∀ A S n log, K A S n log → drawOK ops log = true) (id : Nat) :
    (Code.region id ops true).wp P (fun e a' w' => e = .normal ∧ ∃ A' S' n' log M' ρ', K A' S' n' log ∧ After P G N M ρ w S n A' S' n' a' w' M' ρ') a w := by
  obtain ⟨st, ef0, h0, hT0, hK0⟩ := h.data (Nat.zero_le _)
  let ef : Nat → Option Eff := fun j => if j < ops.size then ef0 j else none
  have hT : ∀ j, j < ops.size → TStep P G N ops j (st j) (ef j) (st (j + 1)) := by
    intro j hj
    have := hT0 j (Nat.zero_le _) hj
    simpa [ef, hj] using this
  have hefN : ∀ j, ops.size ≤ j → ef j = none := fun j hj => by simp [ef]; omega
  have hlog : ((List.range' 0 (ops.size - 0)).map fun j => logOf (ef0 j)) = (List.range' 0 (ops.size - 0)).map fun j => logOf (ef j) := by
    apply List.map_congr_left
    intro j hj
    have := List.mem_range'_1.1 hj
    have hlt : j < ops.size := by omega
    simp [ef, hlt]
  rw [List.nil_append, hlog] at hK0
  have hd : DrawOK ops ef := drawOK_spec (hK _ _ _ _ hK0)
  obtain ⟨tA, tS, tn⟩ := text_state hT ops.size (Nat.le_refl _)
  have hsz : ∀ j, (Array.replicate ops.size false).getD j false = false := by
    intro j
    rw [Array.getD_eq_getD_getElem?]
    rcases Nat.lt_or_ge j ops.size with h | h
    · simp [h]
    · simp [Array.getElem?_eq_none, h]
  have hL0 : Lof (Array.replicate ops.size false) = fun _ => false := funext hsz
  have hA0 : ∀ m t, Aof ops (st 0).A.get ef (fun _ => false) m t = (st 0).A.get t := by
    intro m t
    induction m with
    | zero => rfl
    | succ m ih => rw [Aof, if_neg (by simp), ih]
  have hg0 : ∀ m, gof (st 0).S.get ef (fun _ => false) m = (st 0).S.get := by
    intro m
    induction m with
    | zero => rfl
    | succ m ih => funext id; rw [gof, ih]; simp
  have hst0 : (st 0).A = A ∧ (st 0).S = S ∧ (st 0).n = n := by rw [h0]; exact ⟨rfl, rfl, rfl⟩
  refine wp_region_any hm ?_
  refine any_of (G := G) (N := N) (st := st) (ef := ef) (M0 := M) (ρ0 := ρ) (w0 := w) hT hefN hd hG (by rw [hst0.2.2]; exact hn) ?_ ops.size _ _ _ M ρ (by simp) (Nat.le_trans List.countP_le_length (by simp)) ?_ ?_
  · intro a' w' M' ρ' hR
    refine ⟨rfl, _, _, _, _, M', ρ', hK0, ?_⟩
    have e1 : gof (st 0).S.get ef (fun _ => true) ops.size = (st ops.size).S.get := tS
    have e2 : Aof ops (st 0).A.get ef (fun _ => true) ops.size = (st ops.size).A.get := funext tA
    refine ⟨by rw [← e1]; exact hR.inv, by rw [← e2]; exact hR.env, ?_, fun id hid => ?_, by rw [← hst0.2.2]; exact tn⟩
    · have := hR.adv
      rw [e1, hst0.2.1, hst0.2.2] at this
      exact this
    · cases hρ : ρ' id with
      | none => rfl
      | some v =>
        exfalso
        rcases hR.free id (by simp [hρ]) with h | ⟨j, h1, _, _, h3⟩
        · exact h (hn id (by rw [← hst0.2.2]; omega))
        · have := n_mono hT (j + 1) ops.size (by omega) (Nat.le_refl _); omega
  · rw [hL0]; intro j o e _ h; cases h
  · rw [hL0]
    refine ⟨?_, ?_, ?_, fun id hid => .inl hid⟩
    · rw [hg0, hst0.2.1]
      exact ⟨hI.mem, fun id o ho => by
        obtain ⟨v, h1, h2⟩ := hI.obj id o ho
        exact ⟨v, h1, SObj.ok_keep (o := o) (w := w) h2 (Mem.le_refl _) (Names.le_refl _) fun b _ => ⟨rfl, fun _ h => h⟩⟩, hI.apart⟩
    · rw [show Aof ops (st 0).A.get ef (fun _ => false) ops.size = A.get from funext fun t => by rw [hA0, hst0.1]]
      exact hA
    · rw [hg0, hst0.2.1]
      have := (Adv.refl M ρ S.get w (st 0).n).range (Nat.le_refl _) tn
      exact { this with }
end Go.Abs
/- STEPS: the evaluator's steps are the machine's. -/
set_option linter.unusedVariables false
set_option linter.unusedSimpArgs false
namespace Go.Abs
variable {P : Program}

theorem After.refl {G : Nat → PV} {N : Nat} {A : Env} {S : Store} {n : Nat} {M : Mem} {ρ : Names} {w : World} {a : Act} (hI : Inv M ρ S.get w) (hA : RelA M ρ N A.get a) (hn : ∀ id, n ≤ id → ρ id = none) :
    After P G N M ρ w S n A S n a w M ρ := ⟨hI, hA, Adv.refl _ _ _ _ _, hn, Nat.le_refl _⟩

theorem After.trans {G : Nat → PV} {N : Nat} {M0 ρ0 w0 S0 n0 A1 S1 n1 a1 w1 M1 ρ1 A2 S2 n2 a2 w2 M2 ρ2} (h : After P G N M0 ρ0 w0 S0 n0 A1 S1 n1 a1 w1 M1 ρ1) (k : After P G N M1 ρ1 w1 S1 n1 A2 S2 n2 a2 w2 M2 ρ2) :
    After P G N M0 ρ0 w0 S0 n0 A2 S2 n2 a2 w2 M2 ρ2 := ⟨k.inv, k.env, h.adv.trans k.adv h.le k.le, k.free, Nat.le_trans h.le k.le⟩

theorem put_fun (A : Env) (d : Option Nat) (v : PV) : (put A d v).get = fun t => if d = some t then v else A.get t := funext fun t => put_get A d v t

/-- A region in the order of its text. -/
theorem region_text {G : Nat → PV} {N : Nat} {ops : Array Oper} {K : Env → Store → Nat → List (List Nat × List Nat) → Prop} {i : Nat} {A : Env} {S : Store} {n : Nat} {log : List (List Nat × List Nat)}
    (h : TR P G N ops K i A S n log) : i ≤ ops.size → ∀ {M : Mem} {ρ : Names} {w : World} {a : Act}, Inv M ρ S.get w → RelA M ρ N A.get a → GOK G M → (∀ id, n ≤ id → ρ id = none) →
    wpOps P ops (fun e a' w' => e = .normal ∧ ∃ A' S' n' log M' ρ', K A' S' n' log ∧ After P G N M ρ w S n A' S' n' a' w' M' ρ') (List.range' i (ops.size - i)) a w := by
  have hguard : ∀ {A : Env} {M : Mem} {ρ : Names} {a : Act} {o : Oper} {b : Bool}, RelA M ρ N A.get a → GuardP ops A o.guard b → Region.wanted o (yielded ops a.tmps) = b := by
    intro A M ρ a o b hA hb
    exact wanted_of (M := M) (ρ := ρ) (N := N) (fun g w' hg og d hog hdd => hA.slot d) hb
  induction h with
  | @done i A S n log hi hK =>
    intro hle M ρ w a hI hA hG hn
    rw [show ops.size - i = 0 by omega]
    exact ⟨rfl, A, S, n, log, M, ρ, hK, After.refl hI hA hn⟩
  | @skip i A S n log o ho hs hg _ ih =>
    intro hle M ρ w a hI hA hG hn
    have hlt := lt_of_get ho
    rw [show ops.size - i = ops.size - (i + 1) + 1 by omega, List.range'_succ, wpOps_cons]
    unfold wpOp
    simp only [ho, hguard hA hg, Bool.false_eq_true, if_false]
    have h1 : RelA M ρ N (put A o.dst (.tuple .nil)).get (a.put o.dst Go.undef) := by
      rw [put_fun]; exact hA.put hs ⟨rfl, [], rfl, by simp, rfl⟩
    have := ih (by omega) hI h1 hG hn
    exact this
  | @exec i A S n log o E ho hs hg hE hC _ ih =>
    intro hle M ρ w a hI hA hG hn
    have hlt := lt_of_get ho
    rw [show ops.size - i = ops.size - (i + 1) + 1 by omega, List.range'_succ, wpOps_cons]
    unfold wpOp
    simp only [ho, hguard hA hg, if_true]
    left
    have hfree : ∀ id, n ≤ id → id < E.n → ρ id = none := fun id h _ => hn id h
    have hrun := hE.2.2 o M ρ w a.eval rfl (fun _ => rfl) (hI.only E.F) hfree (fun x _ => hA.opnd hG x) hC hG
    refine hrun.wp fun v w' ⟨M', ρ', hA', hI', hv⟩ => ?_
    obtain ⟨k1, k2⟩ := frame hI hA' hI' hfree
    have hgeq : over E.F n E.n (updW (only S.get E.F) E.W) S.get = (setAll S E.W).get := by
      rw [get_setAll]
      funext id
      unfold over
      split
      · rename_i hid
        rw [updW_wv, updW_wv]
        cases hwv : wv E.W id with
        | some o' => rfl
        | none =>
          simp only [Option.getD_none]
          unfold only
          split
          · rfl
          · rename_i hnF
            rcases hid with hid | hid
            · exact absurd hid hnF
            · cases hgo : S.get id with
              | none => rfl
              | some o' =>
                obtain ⟨v', hv', _⟩ := hI.obj id o' hgo
                rw [hfree id hid.1 hid.2] at hv'; cases hv'
      · rename_i hid
        rw [updW_wv, wv_none (fun x hx e => hid ?_)]
        · rfl
        · rcases hE.2.1 x hx with h | h
          · exact .inl (e ▸ h)
          · exact .inr (e ▸ h)
    rw [hgeq] at k1 k2
    have hfree' : ∀ id, E.n ≤ id → ρ' id = none := by
      intro id hid
      cases hρ : ρ' id with
      | none => rfl
      | some u =>
        exfalso
        have := hA'.fresh id (hn id (Nat.le_trans hE.1 hid)) (by simp [hρ])
        omega
    have h1 : RelA M' ρ' N (put A o.dst E.v).get (a.put o.dst v) := by
      rw [put_fun]; exact (hA.mono hA'.mem hA'.names).put hs hv
    have h2 := ih (by omega) k1 h1 (hG.mono hA'.mem) hfree'
    have hstep : After P G N M ρ w S n (put A o.dst E.v) (setAll S E.W) E.n (a.put o.dst v) w' M' ρ' := ⟨k1, h1, k2, hfree', hE.1⟩
    refine wpOps_mono ?_ _ _ _ h2
    rintro e a' w'' ⟨rfl, A', S', n', log', M'', ρ'', hK', hAf⟩
    exact ⟨rfl, A', S', n', log', M'', ρ'', hK', hstep.trans hAf⟩
  where
  wpOps_mono {Q Q' : Exit → Act → World → Prop} (h : ∀ e a w, Q e a w → Q' e a w) (l : List Nat) (a : Act) (w : World) (hh : wpOps P ops Q l a w) : wpOps P ops Q' l a w := by
    induction l generalizing a w with
    | nil => exact h _ _ _ hh
    | cons i l ih =>
      rw [wpOps_cons] at hh ⊢
      unfold wpOp at *
      split
      · rename_i ho; simp only [ho] at hh; exact ih _ _ hh
      · rename_i o ho
        simp only [ho] at hh
        split
        · rename_i hw
          simp only [hw, if_true] at hh
          rcases hh with hh | ⟨h1, a0, w0, h2⟩
          · left
            unfold Oper.wp at *
            generalize (execOp a.eval o).run P w = r at *
            cases r with
            | ok n w' =>
              cases n <;> simp only [Oper.upon] at hh ⊢ <;>
                first
                  | exact ih _ _ hh
                  | exact Calls.mono hh (fun e w'' he => by cases e <;> first | exact ih _ _ he | exact h _ _ _ he | (obtain ⟨a1, w1, h1⟩ := he; exact ⟨a1, w1, h _ _ _ h1⟩))
                  | exact Rows.mono hh (fun _ _ he => ih _ _ he)
            | halt x w' => cases x <;> simp only [Oper.upon] at hh ⊢ <;> first | exact hh | exact h _ _ _ hh
          · exact .inr ⟨h1, a0, w0, h _ _ _ h2⟩
        · rename_i hw
          simp only [hw] at hh
          exact ih _ _ hh
end Go.Abs
/- THE RUN of a function's text over abstract values. -/
set_option linter.unusedVariables false
set_option linter.unusedSimpArgs false
namespace Go.Abs
variable {P : Program}

def It.item : It → Item
  | .code c => .code c
  | .inBlock id => .inBlock id
  | .inScope c => .inScope c
  | .inLoop c => .inLoop c
  | .ops .. => .code (.refuse "")
  | .done _ => .code (.refuse "")
def plainK : List It → Bool
  | [] => true
  | .ops .. :: _ => false
  | .done _ :: _ => false
  | _ :: k => plainK k

/-- What the whole run leaves. -/
structure Fin (n0 : Nat) (M0 : Mem) (ρ0 : Names) (w0 : World) (S0 : Store) (S : Store) (a : Act) (w : World) (M : Mem) (ρ : Names) : Prop where
  inv : Inv M ρ S.get w
  defers : a.defers = []
  mem : M0.le M
  names : ∀ id, id < n0 → ρ id = ρ0 id
  os : w.os = w0.os
  tape : w.tape = w0.tape
  output : w.output = w0.output
  size : w0.heap.size ≤ w.heap.size
  heap : ∀ b, b < w0.heap.size → ¬ occ ρ0 S0.get b → w.heap[b]? = w0.heap[b]?
  blks : ∀ b, occ ρ S.get b → w0.heap.size ≤ b ∨ occ ρ0 S0.get b
  mnew : ∀ b i, M b i ≠ none → M0 b i = none → w0.heap.size ≤ b ∨ occ ρ0 S0.get b

theorem After.fin {G : Nat → PV} {N n0 : Nat} {M0 ρ0 w0 S0 n A1 S1 n1 a1 w1 M1 ρ1} (h : After P G N M0 ρ0 w0 S0 n A1 S1 n1 a1 w1 M1 ρ1) (hn : n0 ≤ n) : Fin n0 M0 ρ0 w0 S0 S1 a1 w1 M1 ρ1 where
  inv := h.inv
  defers := h.env.defers
  mem := h.adv.mem
  names := fun id hid => by
    cases h0 : ρ0 id with
    | some v => exact h.adv.names _ _ h0
    | none =>
      cases h1 : ρ1 id with
      | none => rfl
      | some v => have := h.adv.fresh id h0 (by simp [h1]); omega
  os := h.adv.os
  tape := h.adv.tape
  output := h.adv.output
  size := h.adv.size
  heap := h.adv.heap
  blks := h.adv.blks
  mnew := h.adv.mnew

theorem After.fins {G : Nat → PV} {N n0 : Nat} {M0 ρ0 w0 S0 n A1 S1 n1 a1 w1 M1 ρ1 S2 a2 w2 M2 ρ2} (h : After P G N M0 ρ0 w0 S0 n A1 S1 n1 a1 w1 M1 ρ1) (hn : n0 ≤ n) (k : Fin n0 M1 ρ1 w1 S1 S2 a2 w2 M2 ρ2) : Fin n0 M0 ρ0 w0 S0 S2 a2 w2 M2 ρ2 where
  inv := k.inv
  defers := k.defers
  mem := Mem.le_trans h.adv.mem k.mem
  names := fun id hid => (k.names id hid).trans ((h.fin hn).names id hid)
  os := k.os.trans h.adv.os
  tape := k.tape.trans h.adv.tape
  output := k.output.trans h.adv.output
  size := Nat.le_trans h.adv.size k.size
  heap := fun b hb ho => by
    rw [k.heap b (by have := h.adv.size; omega) (fun ho1 => by rcases h.adv.blks b ho1 with h' | h'; omega; exact ho h'), h.adv.heap b hb ho]
  blks := fun b ho => by
    rcases k.blks b ho with h' | h'
    · exact .inl (by have := h.adv.size; omega)
    · exact h.adv.blks b h'
  mnew := fun b i h2 h0 => by
    by_cases h' : M1 b i = none
    · rcases k.mnew b i h2 h' with h'' | h''
      · exact .inl (by have := h.adv.size; omega)
      · exact h.adv.blks b h''
    · exact h.adv.mnew b i h' h0

/-- From here the machine comes to the function's end, and what it hands back is as 'Q' says. -/
def Mach (P : Program) (X : Ctx) (fn : Func) (Q : PV → Store → Prop) (k : List It) (A : Env) (S : Store) (n : Nat) : Prop :=
  ∀ (M : Mem) (ρ : Names) (w : World) (a : Act) (b : Frame) (cs : List Frame), GOK X.G M → Inv M ρ S.get w → (∀ id, n ≤ id → ρ id = none) → X.n0 ≤ n → RelA M ρ X.N A.get a →
    ∃ todo a' w' M' ρ' v S' u, Steps P (lone (b.at a (k.map It.item)) cs w) (lone { b.at a' todo with mode := .returning } cs w') ∧
      Fin X.n0 M ρ w S S' a' w' M' ρ' ∧ (results fn a'.tmps).run P w' = .ok u w' ∧ rel M' v ρ' .val [u] ∧ Q v S'

def Run (P : Program) (X : Ctx) (fn : Func) (Q : PV → Store → Prop) : List It → Env → Store → Nat → Prop
  | .done v :: _, _, S, _ => Q v S
  | .ops d ops i log :: k, A, S, n => plainK k = true ∧ TR P X.G X.N ops (fun A' S' n' log' => (d = true → drawOK ops log' = true) ∧ Run P X fn Q k A' S' n') i A S n log
  | k, A, S, n => plainK k = true ∧ Mach P X fn Q k A S n
def RunC (P : Program) (X : Ctx) (fn : Func) (Q : PV → Store → Prop) (c : Cfg) : Prop := Run P X fn Q c.k c.A c.S c.n

structure OK (P : Program) (X : Ctx) (fn : Func) : Prop where
  T : TT P X.T
  mixed : P.follows .mixedOrders = true
  res : X.res = fn.results.toList

section
variable {X : Ctx} {fn : Func} {Q : PV → Store → Prop} {A : Env} {S : Store} {n : Nat}

theorem run_plain {k : List It} (hk : plainK k = true) : Run P X fn Q k A S n ↔ Mach P X fn Q k A S n := by
  cases k with
  | nil => simp [Run, plainK]
  | cons x k => cases x <;> simp_all [Run, plainK]
theorem plain_code {c : Code} {k : List It} : plainK (.code c :: k) = plainK k := rfl

theorem mach_step {k k' : List It} (h : ∀ (a : Act) (b : Frame) (cs : List Frame) (w : World), step P (lone (b.at a (k.map It.item)) cs w) = .next (lone (b.at a (k'.map It.item)) cs w)) (hr : Mach P X fn Q k' A S n) : Mach P X fn Q k A S n := by
  intro M ρ w a b cs hG hI hn hm hA
  obtain ⟨todo, a', w', M', ρ', v, S', u, h1, h2⟩ := hr M ρ w a b cs hG hI hn hm hA
  exact ⟨todo, a', w', M', ρ', v, S', u, .head (h a b cs w) h1, h2⟩

theorem mach_step_of {k k' : List It} (h : ∀ (M : Mem) (ρ : Names) (a : Act) (b : Frame) (cs : List Frame) (w : World), GOK X.G M → RelA M ρ X.N A.get a → step P (lone (b.at a (k.map It.item)) cs w) = .next (lone (b.at a (k'.map It.item)) cs w)) (hr : Mach P X fn Q k' A S n) :
    Mach P X fn Q k A S n := by
  intro M ρ w a b cs hG hI hn hm hA
  obtain ⟨todo, a', w', M', ρ', v, S', u, h1, h2⟩ := hr M ρ w a b cs hG hI hn hm hA
  exact ⟨todo, a', w', M', ρ', v, S', u, .head (h M ρ a b cs w hG hA) h1, h2⟩

/-- What stands behind the loop's first step. -/
theorem mach_loop {c : Code} {k : List It} (hr : Mach P X fn Q (.inLoop c :: k) A S n) : Mach P X fn Q (.code (.loop c) :: k) A S n := by
  intro M ρ w a b cs hG hI hn hm hA
  obtain ⟨todo, a', w', M', ρ', v, S', u, ⟨m, hm⟩, h2⟩ := hr M ρ w a b cs hG hI hn hm hA
  refine ⟨todo, a', w', M', ρ', v, S', u, ?_, h2⟩
  have e1 : (It.inLoop c :: k).map It.item = .inLoop c :: k.map It.item := rfl
  have e2 : (It.code (.loop c) :: k).map It.item = .code (.loop c) :: k.map It.item := rfl
  rw [e1] at hm
  rw [e2]
  cases m with
  | zero =>
    exfalso
    simp only [runN, Stepped.next.injEq] at hm
    have := congrArg (fun m : Machine => (m.gs[0]?).map (·.frame.mode)) hm
    simp [lone, Frame.at] at this
  | succ m =>
    simp only [runN, step_inLoop] at hm
    exact .head step_loop ⟨m, hm⟩

theorem exitK_item (id : Nat) : ∀ (k k' : List It), plainK k = true → exitK id k = some k' → exitTo id (k.map It.item) = some (k'.map It.item) ∧ plainK k' = true := by
  intro k
  induction k with
  | nil => intro k' _ h; simp [exitK] at h
  | cons x k ih =>
    intro k' hp h
    cases x
    case inBlock i =>
      simp only [exitK] at h
      simp only [plainK] at hp
      cases hb : beqN i id with
      | true =>
        simp only [hb, cond_true, Option.some.injEq] at h
        subst h
        obtain rfl : i = id := by simpa using hb
        exact ⟨by simp [exitTo, It.item], hp⟩
      | false =>
        simp only [hb, cond_false] at h
        obtain ⟨h1, h2⟩ := ih k' hp h
        have : (i == id) = false := by rw [beq_eq_false_iff_ne]; intro e; subst e; simp at hb
        exact ⟨by simp [exitTo, It.item, this, h1], h2⟩
    case ops => simp [plainK] at hp
    case done => simp [plainK] at hp
    all_goals
      simp only [exitK] at h
      simp only [plainK] at hp
      obtain ⟨h1, h2⟩ := ih k' hp h
      exact ⟨by simp [exitTo, It.item, h1], h2⟩

/-! ### What is handed back -/
def resF (tmps : Array Value) : ResultVar → Sem Value
  | .tmp t => Pure.pure (tmps.getD t Go.undef)
  | .cell a t => do loadVar t (← asAddr (tmps.getD a Go.undef))
theorem results_eq (fn : Func) (tmps : Array Value) : results fn tmps = (do let vs ← fn.results.mapM (resF tmps); Pure.pure (if h : vs.size = 1 then vs[0] else .tuple vs)) := by
  unfold results
  congr 1

theorem resE_ok (hX : OK P X fn) {M : Mem} {ρ : Names} {w : World} {a : Act} (hI : Inv M ρ S.get w) (hA : RelA M ρ X.N A.get a) :
    ∀ (rs : List ResultVar) (l : List PV) (C : List (Unit → Prop)), resE X.T A S rs = some (l, C) → (∀ c ∈ C, c ()) →
      ∃ us : List Value, (rs.mapM (resF a.tmps)).run P w = .ok us w ∧ rel M (PV.ofList l) ρ .vals us ∧ us.length = l.length := by
  intro rs
  induction rs with
  | nil =>
    intro l C h _
    simp only [resE, Option.some.injEq, Prod.mk.injEq] at h
    obtain ⟨rfl, rfl⟩ := h
    exact ⟨[], rfl, ⟨by simp, rfl⟩, rfl⟩
  | cons r rs ih =>
    intro l C h hC
    cases r with
    | tmp t =>
      simp only [resE] at h
      cases hr : resE X.T A S rs with
      | none => simp [hr] at h
      | some q =>
        obtain ⟨l', C'⟩ := q
        simp only [hr, Option.some.injEq, Prod.mk.injEq] at h
        obtain ⟨rfl, rfl⟩ := h
        obtain ⟨us, h1, h2, h3⟩ := ih l' C' hr hC
        refine ⟨a.tmps.getD t Go.undef :: us, ?_, .inr ⟨rfl, _, _, rfl, hA.slot t, h2⟩, by simp [h3]⟩
        rw [List.mapM_cons]
        simp only [resF, Sem.run_bind, Sem.run_pure, Result.andThen_ok, h1]
    | cell ad t =>
      simp only [resE] at h
      split at h
      · rename_i v F C1 l' C' hl hr
        simp only [Option.some.injEq, Prod.mk.injEq] at h
        obtain ⟨rfl, rfl⟩ := h
        obtain ⟨us, h1, h2, h3⟩ := ih l' C' hr (fun c hc => hC c (List.mem_append_right _ hc))
        obtain ⟨u, k1, k2⟩ := loadE_ok hX.T hl (fun c hc => hC c (List.mem_append_left _ hc)) (hI.only F) (hA.slot ad)
        refine ⟨u :: us, ?_, .inr ⟨rfl, _, _, rfl, k2, h2⟩, by simp [h3]⟩
        rw [List.mapM_cons]
        have hload : ((do loadVar t (← asAddr (a.tmps.getD ad Go.undef)) : Sem Value)).run P w = .ok u w := by
          generalize a.tmps.getD ad Go.undef = vp at k1 ⊢
          unfold Instr.loadAt at k1
          cases vp with
          | pointer p =>
            cases p with
            | none => simp [Instr.sureAddr] at k1
            | some p => simpa [Instr.sureAddr, asAddr] using k1
          | _ => simp [Instr.sureAddr] at k1
        have hload' : (resF a.tmps (.cell ad t)).run P w = .ok u w := hload
        simp only [Sem.run_bind, hload', Result.andThen_ok, h1, Sem.run_pure]
      · cases h

theorem results_ok (hX : OK P X fn) {M : Mem} {ρ : Names} {w : World} {a : Act} (hI : Inv M ρ S.get w) (hA : RelA M ρ X.N A.get a) {l : List PV} {C : List (Unit → Prop)} (h : resE X.T A S X.res = some (l, C)) (hC : ∀ c ∈ C, c ()) :
    ∃ u, (results fn a.tmps).run P w = .ok u w ∧ rel M (resPV l) ρ .val [u] := by
  rw [hX.res] at h
  obtain ⟨us, h1, h2, h3⟩ := resE_ok hX hI hA _ _ _ h hC
  refine ⟨(if h : us.toArray.size = 1 then us.toArray[0] else .tuple us.toArray), ?_, ?_⟩
  · rw [results_eq, Array.mapM_eq_mapM_toList]
    simp only [Sem.run_bind, Sem.run_map, h1, Result.andThen_ok, Sem.run_pure]
  · match l, us, h2, h3 with
    | [], [], h2, _ => exact ⟨rfl, [], rfl, h2⟩
    | [v], [u], h2, _ =>
      rcases h2 with ⟨h', _⟩ | ⟨_, u', ws, e, k1, k2⟩
      · cases h'
      · simp only [List.cons.injEq] at e
        obtain ⟨rfl, rfl⟩ := e
        exact k1
    | v :: v' :: l, u :: u' :: us, h2, _ =>
      have hne : ¬ (u :: u' :: us).toArray.size = 1 := by simp
      rw [dif_neg hne]
      exact ⟨rfl, _, rfl, h2⟩

theorem mach_ret (hX : OK P X fn) {k : List It} {l : List PV} {C : List (Unit → Prop)} (h : resE X.T A S X.res = some (l, C)) (hC : ∀ c ∈ C, c ()) (hQ : Q (resPV l) S) : Mach P X fn Q (.code .ret :: k) A S n := by
  intro M ρ w a b cs hG hI hn hm hA
  obtain ⟨u, h1, h2⟩ := results_ok hX hI hA h hC
  exact ⟨_, a, w, M, ρ, _, S, u, .one step_ret, (After.refl (P := P) (G := X.G) hI hA hn).fin hm, h1, h2, hQ⟩
theorem mach_end (hX : OK P X fn) {l : List PV} {C : List (Unit → Prop)} (h : resE X.T A S X.res = some (l, C)) (hC : ∀ c ∈ C, c ()) (hQ : Q (resPV l) S) : Mach P X fn Q [] A S n := by
  intro M ρ w a b cs hG hI hn hm hA
  obtain ⟨u, h1, h2⟩ := results_ok hX hI hA h hC
  exact ⟨_, a, w, M, ρ, _, S, u, .one step_end, (After.refl (P := P) (G := X.G) hI hA hn).fin hm, h1, h2, hQ⟩

/-- A region. -/
theorem mach_region (hX : OK P X fn) {id : Nat} {ops : Array Oper} {d : Bool} {k : List It} (hk : plainK k = true)
    (h : TR P X.G X.N ops (fun A' S' n' log' => (d = true → drawOK ops log' = true) ∧ Run P X fn Q k A' S' n') 0 A S n []) : Mach P X fn Q (.code (.region id ops d) :: k) A S n := by
  intro M ρ w a b cs hG hI hn hm hA
  have hwp : (Code.region id ops d).wp P (fun e a' w' => e = .normal ∧ ∃ A' S' n' log M' ρ', ((d = true → drawOK ops log = true) ∧ Run P X fn Q k A' S' n') ∧ After P X.G X.N M ρ w S n A' S' n' a' w' M' ρ') a w := by
    cases d with
    | true => exact region_draw hX.mixed h hI hA hG hn (fun _ _ _ _ hk => hk.1 rfl) id
    | false =>
      refine wp_region ?_
      have := region_text h (Nat.zero_le _) hI hA hG hn
      rw [List.range_eq_range']
      exact this
  obtain ⟨e, a1, w1, ⟨rfl, A1, S1, n1, log, M1, ρ1, ⟨_, hR⟩, hAf⟩, harr⟩ := hwp b (k.map It.item) cs
  obtain ⟨todo, a', w', M', ρ', v, S', u, h1, h2, h3⟩ := (run_plain hk).1 hR M1 ρ1 w1 a1 b cs (hG.mono hAf.adv.mem) hAf.inv hAf.free (Nat.le_trans hm hAf.le) hAf.env
  exact ⟨todo, a', w', M', ρ', v, S', u, Steps.trans harr h1, hAf.fins hm h2, h3⟩
end

theorem step_scope {b : Frame} {a : Act} {k : List Item} {cs : List Frame} {w : World} {c : Code} : step P (lone (b.at a (.code (.scope c) :: k)) cs w) = .next (lone (b.at a (.code c :: .inScope c :: k)) cs w) :=
  step_lone_go (by simp [stepG, stepG.exec, Frame.at])
theorem step_inScope {b : Frame} {a : Act} {k : List Item} {cs : List Frame} {w : World} {c : Code} : step P (lone (b.at a (.inScope c :: k)) cs w) = .next (lone (b.at a k) cs w) :=
  step_lone_go (by simp [stepG, stepG.exec, Frame.at])

/-- Is the list of what is to be done a good one? -/
def wfK : List It → Bool
  | .ops .. :: k => plainK k
  | .done _ :: _ => true
  | k => plainK k
theorem wf_plain {k : List It} (h : plainK k = true) : wfK k = true := by
  cases k with
  | nil => rfl
  | cons x k => cases x <;> simp_all [wfK, plainK]

/-- ONE STEP OF THE EVALUATOR. -/
theorem step1_ok {X : Ctx} {fn : Func} (hX : OK P X fn) {Q : PV → Store → Prop} {c c' : Cfg} {C : List (Unit → Prop)} (hwf : wfK c.k = true) (h : step1 X c = some (c', C)) :
    wfK c'.k = true ∧ ((∀ q ∈ C, q ()) → RunC P X fn Q c' → RunC P X fn Q c) := by
  obtain ⟨k, A, S, n⟩ := c
  simp only at hwf
  cases k with
  | nil =>
    simp only [step1] at h
    cases hq : resE X.T A S X.res with
    | none => simp [hq] at h
    | some q =>
      obtain ⟨l, C'⟩ := q
      simp only [hq, Option.some.injEq, Prod.mk.injEq] at h
      obtain ⟨rfl, rfl⟩ := h
      exact ⟨rfl, fun hC hr => ⟨rfl, mach_end hX hq hC hr⟩⟩
  | cons x k =>
    cases x with
    | inBlock id =>
      simp only [step1, Option.some.injEq, Prod.mk.injEq] at h
      obtain ⟨rfl, rfl⟩ := h
      have hk : plainK k = true := hwf
      exact ⟨wf_plain hk, fun _ hr => ⟨hk, mach_step (fun _ _ _ _ => step_inBlock) ((run_plain hk).1 hr)⟩⟩
    | inScope id =>
      simp only [step1, Option.some.injEq, Prod.mk.injEq] at h
      obtain ⟨rfl, rfl⟩ := h
      have hk : plainK k = true := hwf
      exact ⟨wf_plain hk, fun _ hr => ⟨hk, mach_step (fun _ _ _ _ => step_inScope) ((run_plain hk).1 hr)⟩⟩
    | inLoop c => simp [step1] at h
    | done v => simp [step1] at h
    | ops d ops i log =>
      have hk : plainK k = true := hwf
      simp only [step1] at h
      cases ho : ops[i]? with
      | none =>
        simp only [ho, Option.some.injEq, Prod.mk.injEq] at h
        obtain ⟨rfl, rfl⟩ := h
        refine ⟨wf_plain hk, fun hC hr => ⟨hk, .done (by simpa using ho) ⟨fun hd => ?_, hr⟩⟩⟩
        subst hd
        exact hC (fun _ => drawOK ops log = true) (by simp)
      | some o =>
        simp only [ho] at h
        cases hs : slotOK X.N o.dst with
        | false => simp [hs] at h
        | true =>
          simp only [hs, cond_true] at h
          cases hg : guardE ops A o.guard with
          | none => simp [hg] at h
          | some bg =>
            cases bg with
            | false =>
              simp only [hg, Option.some.injEq, Prod.mk.injEq] at h
              obtain ⟨rfl, rfl⟩ := h
              exact ⟨hk, fun _ hr => ⟨hk, .skip ho hs (guardE_P hg) hr.2⟩⟩
            | true =>
              simp only [hg] at h
              cases hE : opE X.T (opnd X.G A) S.get n o.op with
              | none => simp [hE] at h
              | some E =>
                simp only [hE, Option.some.injEq, Prod.mk.injEq] at h
                obtain ⟨rfl, rfl⟩ := h
                exact ⟨hk, fun hC hr => ⟨hk, .exec E ho hs (guardE_P hg) (opE_ok hX.T hE) hC hr.2⟩⟩
    | code c =>
      have hk : plainK k = true := hwf
      cases c with
      | seq x y =>
        simp only [step1, Option.some.injEq, Prod.mk.injEq] at h
        obtain ⟨rfl, rfl⟩ := h
        have hk' : plainK (.code x :: .code y :: k) = true := hk
        exact ⟨wf_plain hk', fun _ hr => ⟨hk, mach_step (fun _ _ _ _ => step_seq) ((run_plain hk').1 hr)⟩⟩
      | skip =>
        simp only [step1, Option.some.injEq, Prod.mk.injEq] at h
        obtain ⟨rfl, rfl⟩ := h
        exact ⟨wf_plain hk, fun _ hr => ⟨hk, mach_step (fun _ _ _ _ => step_skip) ((run_plain hk).1 hr)⟩⟩
      | label l =>
        simp only [step1, Option.some.injEq, Prod.mk.injEq] at h
        obtain ⟨rfl, rfl⟩ := h
        exact ⟨wf_plain hk, fun _ hr => ⟨hk, mach_step (fun _ _ _ _ => step_label) ((run_plain hk).1 hr)⟩⟩
      | block id c =>
        simp only [step1, Option.some.injEq, Prod.mk.injEq] at h
        obtain ⟨rfl, rfl⟩ := h
        have hk' : plainK (.code c :: .inBlock id :: k) = true := hk
        exact ⟨wf_plain hk', fun _ hr => ⟨hk, mach_step (fun _ _ _ _ => step_block) ((run_plain hk').1 hr)⟩⟩
      | scope c =>
        simp only [step1, Option.some.injEq, Prod.mk.injEq] at h
        obtain ⟨rfl, rfl⟩ := h
        have hk' : plainK (.code c :: .inScope c :: k) = true := hk
        exact ⟨wf_plain hk', fun _ hr => ⟨hk, mach_step (fun _ _ _ _ => step_scope) ((run_plain hk').1 hr)⟩⟩
      | loop c =>
        simp only [step1, Option.some.injEq, Prod.mk.injEq] at h
        obtain ⟨rfl, rfl⟩ := h
        have hk' : plainK (.inLoop c :: k) = true := hk
        exact ⟨wf_plain hk', fun _ hr => ⟨hk, mach_loop ((run_plain hk').1 hr)⟩⟩
      | ret =>
        simp only [step1] at h
        cases hq : resE X.T A S X.res with
        | none => simp [hq] at h
        | some q =>
          obtain ⟨l, C'⟩ := q
          simp only [hq, Option.some.injEq, Prod.mk.injEq] at h
          obtain ⟨rfl, rfl⟩ := h
          exact ⟨rfl, fun hC hr => ⟨hk, mach_ret hX hq hC hr⟩⟩
      | exit id =>
        simp only [step1] at h
        cases hq : exitK id k with
        | none => simp [hq] at h
        | some k' =>
          simp only [hq, Option.some.injEq, Prod.mk.injEq] at h
          obtain ⟨rfl, rfl⟩ := h
          obtain ⟨h1, h2⟩ := exitK_item id k k' hk hq
          exact ⟨wf_plain h2, fun _ hr => ⟨hk, mach_step (fun _ _ _ _ => step_exit h1) ((run_plain h2).1 hr)⟩⟩
      | cond q x y =>
        have hstep : ∀ (t : Bool), (opnd X.G A q = if t then .tt else .ff) → ∀ (M : Mem) (ρ : Names) (a : Act) (b : Frame) (cs : List Frame) (w : World), GOK X.G M → RelA M ρ X.N A.get a →
            step P (lone (b.at a ((It.code (.cond q x y) :: k).map It.item)) cs w) = .next (lone (b.at a ((It.code (if t then x else y) :: k).map It.item)) cs w) := by
          intro t ht M ρ a b cs w hG hA
          have := hA.opnd hG q
          rw [ht] at this
          refine step_cond ?_
          cases t with
          | true => simpa [rel, one] using this
          | false => simpa [rel, one] using this
        simp only [step1] at h
        split at h
        · rename_i ht
          simp only [Option.some.injEq, Prod.mk.injEq] at h
          obtain ⟨rfl, rfl⟩ := h
          have hk' : plainK (.code x :: k) = true := hk
          exact ⟨wf_plain hk', fun _ hr => ⟨hk, mach_step_of (hstep true ht) ((run_plain hk').1 hr)⟩⟩
        · rename_i ht
          simp only [Option.some.injEq, Prod.mk.injEq] at h
          obtain ⟨rfl, rfl⟩ := h
          have hk' : plainK (.code y :: k) = true := hk
          exact ⟨wf_plain hk', fun _ hr => ⟨hk, mach_step_of (hstep false ht) ((run_plain hk').1 hr)⟩⟩
        · cases h
      | region id ops d =>
        simp only [step1, Option.some.injEq, Prod.mk.injEq] at h
        obtain ⟨rfl, rfl⟩ := h
        exact ⟨hk, fun _ hr => ⟨hk, mach_region hX hk hr.2⟩⟩
      | _ => simp [step1] at h

def conds : List (Unit → Prop) → Prop
  | [] => True
  | c :: r => c () ∧ conds r
theorem conds_mem : ∀ {C : List (Unit → Prop)}, conds C → ∀ q ∈ C, q ()
  | c :: r, ⟨h, hr⟩, q, hq => by
    rcases List.mem_cons.1 hq with rfl | hq
    · exact h
    · exact conds_mem hr q hq
theorem conds_append : ∀ {C D : List (Unit → Prop)}, conds (C ++ D) → conds C ∧ conds D
  | [], D, h => ⟨trivial, h⟩
  | c :: r, D, ⟨h, hr⟩ => ⟨⟨h, (conds_append hr).1⟩, (conds_append hr).2⟩

/-- STEPS OF THE EVALUATOR. -/
theorem steps_ok {X : Ctx} {fn : Func} (hX : OK P X fn) {Q : PV → Store → Prop} : ∀ (m : Nat) (c : Cfg), wfK c.k = true →
    wfK (steps X m c).1.k = true ∧ (conds (steps X m c).2 → RunC P X fn Q (steps X m c).1 → RunC P X fn Q c)
  | 0, c, hwf => ⟨hwf, fun _ h => h⟩
  | m + 1, c, hwf => by
    rw [steps]
    cases h : step1 X c with
    | none => exact ⟨hwf, fun _ h => h⟩
    | some q =>
      obtain ⟨c', C⟩ := q
      obtain ⟨h1, h2⟩ := step1_ok hX (Q := Q) hwf h
      obtain ⟨h3, h4⟩ := steps_ok hX (Q := Q) m c' h1
      exact ⟨h3, fun hC hr => h2 (conds_mem (conds_append hC).1) (h4 (conds_append hC).2 hr)⟩
end Go.Abs
/- CALLS of functions of values alone. -/
set_option linter.unusedVariables false
set_option linter.unusedSimpArgs false
namespace Go.Abs
variable {P : Program}

def none0 : Sto := fun _ => none

/-- What stands in the slots when a call begins. -/
def Env.enter : Nat → PV → Env
  | i, .cons x r => (i, x) :: Env.enter (i + 1) r
  | _, _ => []
def PV.count : PV → Nat
  | .cons _ r => r.count + 1
  | _ => 0

theorem rel_list {M : Mem} {ρ : Names} : ∀ {args : PV} {vs : List Value}, rel M args ρ .vals vs → vs.length = args.count ∧
    ∀ i t, rel M ((Env.enter i args).get (i + t)) ρ .val [(vs[t]?).getD Go.undef] := by
  intro args
  induction args with
  | nil =>
    intro vs ⟨_, h⟩
    subst h
    exact ⟨rfl, fun i t => ⟨rfl, _, rfl⟩⟩
  | cons x r _ ih =>
    intro vs h
    rcases h with ⟨h', _⟩ | ⟨_, v, ws, rfl, h1, h2⟩
    · cases h'
    obtain ⟨k1, k2⟩ := ih h2
    refine ⟨by simp [PV.count, k1], fun i t => ?_⟩
    cases t with
    | zero => simpa [Env.enter, Env.get] using h1
    | succ t =>
      have hb : beqN i (i + (t + 1)) = false := nbeq (by omega)
      simp only [Env.enter, Env.get, hb, cond_false, List.getElem?_cons_succ]
      have := k2 (i + 1) t
      rwa [show i + 1 + t = i + (t + 1) by omega] at this
  | _ => intro vs h; exfalso; simp [rel, one] at h

/-- A walk through a function's text shows what the function is. -/
theorem calls_of_run {X : Ctx} {f : Nat} {fn : Func} {c : Code} {args : PV} {Q : PV → Store → Prop} (hf : P.funcs[f]? = some fn) (hb : fn.body = some c) (hN : fn.ntmps = X.N) (hle : args.count ≤ X.N)
    {S : Store} {n : Nat} (hm : X.n0 ≤ n) (h : RunC P X fn Q ⟨[.code c], Env.enter 0 args, S, n⟩) {M : Mem} {ρ : Names} {w : World} {vs : List Value} (hG : GOK X.G M) (hI : Inv M ρ S.get w) (hn : ∀ id, n ≤ id → ρ id = none) (hr : rel M args ρ .vals vs) :
    Calls P f vs.toArray w fun e w' => ∃ M' ρ' v pv S' a', e = .returned v ∧ Fin X.n0 M ρ w S S' a' w' M' ρ' ∧ rel M' pv ρ' .val [v] ∧ Q pv S' := by
  obtain ⟨hl, hs⟩ := rel_list hr
  intro cs
  let b : Frame := { (default : Frame) with fn := f, kind := .normal }
  let a : Act := { tmps := vs.toArray ++ Array.replicate (fn.ntmps - vs.toArray.size) Go.undef, defers := [] }
  have henter : Frame.enter P f vs.toArray .normal = b.at a ([It.code c].map It.item) := by
    simp [Frame.enter, Frame.at, hf, hb, b, a, It.item]
  have hA : RelA M ρ X.N (Env.enter 0 args).get a := by
    refine ⟨fun t => ?_, ?_, rfl⟩
    · have := hs 0 t
      rw [Nat.zero_add] at this
      have e : a.tmps.getD t Go.undef = (vs[t]?).getD Go.undef := by
        rw [Array.getD_eq_getD_getElem?]
        show ((vs.toArray ++ Array.replicate (fn.ntmps - vs.toArray.size) Go.undef)[t]?).getD Go.undef = _
        rw [Array.getElem?_append]
        split
        · rw [List.getElem?_toArray]
        · rename_i hlt
          have hlt' : vs.length ≤ t := by simpa using hlt
          rw [Array.getElem?_replicate, List.getElem?_eq_none hlt']
          split <;> rfl
      rw [e]; exact this
    · show (vs.toArray ++ Array.replicate (fn.ntmps - vs.toArray.size) Go.undef).size = X.N
      simp; omega
  obtain ⟨todo, a', w', M', ρ', v, S', u, h1, h2, h3, h4, h5⟩ := (run_plain (k := [.code c]) rfl).1 h M ρ w a b cs hG hI hn hm hA
  rw [← henter] at h1
  exact ⟨.returned u, w', _, ⟨M', ρ', u, v, S', a', rfl, h2, h4, h5⟩, h1, rfl, rfl, h2.defers, rfl, fn, hf, h3⟩

/-- May it be called? -/
def Callable (P : Program) (f : Nat) : Prop := ∃ fn, P.funcs[f]? = some fn ∧ (fn.name == "runtime.NumGoroutine") = false ∧ fn.body.isNone = false

/-- A function of values alone: with such arguments it hands back such a value. -/
def PFun (P : Program) (G : Nat → PV) (f : Nat) (args : PV) (r : PV) : Prop :=
  Callable P f ∧ ∀ (M : Mem) (w : World) (vs : List Value), GOK G M → Inv M noNames none0 w → rel M args noNames .vals vs →
    Calls P f vs.toArray w fun e w' => ∃ M' ρ' v S' a', e = .returned v ∧ Fin 0 M noNames w [] S' a' w' M' ρ' ∧ rel M' r noNames .val [v]

theorem PFun.of_run {X : Ctx} {f : Nat} {fn : Func} {c : Code} {args r : PV} (hf : P.funcs[f]? = some fn) (hname : (fn.name == "runtime.NumGoroutine") = false) (hb : fn.body = some c) (hN : fn.ntmps = X.N) (h0 : X.n0 = 0) (hle : args.count ≤ X.N)
    (h : RunC P X fn (fun pv _ => pv.pure = true ∧ pv.strip = r) ⟨[.code c], Env.enter 0 args, [], 0⟩) : PFun P X.G f args r := by
  refine ⟨⟨fn, hf, hname, by rw [hb]; rfl⟩, fun M w vs hG hI hr => (calls_of_run hf hb hN hle (by omega) h hG hI (fun _ _ => rfl) hr).mono ?_⟩
  rintro e w' ⟨M', ρ', v, pv, S', a', rfl, h1, h2, h3, h4⟩
  exact ⟨M', ρ', v, S', a', rfl, by rw [h0] at h1; exact h1, by rw [← h4]; exact strip_rel _ h3 h2⟩

/-- A call of such a function, whatever the caller has. -/
theorem PFun.use {G : Nat → PV} {f : Nat} {args r : PV} (h : PFun P G f args r) {M : Mem} {ρ : Names} {g : Sto} {w : World} {n : Nat} {vs : List Value} (hG : GOK G M) (hI : Inv M ρ (only g []) w) (hr : rel M args noNames .vals vs) :
    Calls P f vs.toArray w fun e w' => ∃ v, e = .returned v ∧ ∃ M', Adv M ρ (only g []) w n n M' ρ (only g []) w' ∧ Inv M' ρ (only g []) w' ∧ rel M' r noNames .val [v] := by
  have hemp : ∀ id o, only g [] id = some o → False := fun id o ho => by simp [only] at ho
  have hI0 : Inv M noNames none0 w := ⟨hI.mem, fun id o ho => (by cases ho), fun id id' o o' ho => (by cases ho)⟩
  refine (h.2 M w vs hG hI0 hr).mono ?_
  rintro e w' ⟨M', ρ', v, S', a', rfl, h1, h3⟩
  have hocc : ∀ b, ¬ occ noNames (Store.get []) b := fun b ⟨id, o, ho, _⟩ => by simp [Store.get] at ho
  refine ⟨v, rfl, M', ⟨h1.mem, Names.le_refl _, fun id a b => absurd a b, h1.os, h1.tape, h1.output, h1.size, fun b hb _ => h1.heap b hb (hocc b), fun b ho => .inr ho, fun b i h h0 => ?_⟩, ⟨h1.inv.mem, fun id o ho => (hemp id o ho).elim, fun id id' o o' ho => (hemp id o ho).elim⟩, h3⟩
  rcases h1.mnew b i h h0 with h' | h'
  · exact .inl h'
  · exact absurd h' (hocc b)

/-! ### The operation 'call' -/
def argsE (e : Operand → PV) : List Operand → PV
  | [] => .nil
  | x :: r => .cons (e x) (argsE e r)
def PV.app : PV → PV → PV
  | .cons x r, s => .cons x (r.app s)
  | _, s => s

theorem rel_args {M : Mem} {ρ : Names} {e : Operand → PV} {ev : Operand → Value} : ∀ {l : List Operand}, (∀ x ∈ l, rel M (e x) ρ .val [ev x]) → rel M (argsE e l) ρ .vals (l.map ev)
  | [], _ => ⟨by simp, rfl⟩
  | x :: l, h => .inr ⟨rfl, _, _, rfl, h x (by simp), rel_args fun y hy => h y (by simp [hy])⟩
theorem rel_app {M : Mem} {ρ : Names} : ∀ {a b : PV} {vs ws : List Value}, rel M a ρ .vals vs → rel M b ρ .vals ws → rel M (a.app b) ρ .vals (vs ++ ws) := by
  intro a
  induction a with
  | nil => intro b vs ws ⟨_, h⟩ k; subst h; exact k
  | cons x r _ ih =>
    intro b vs ws h k
    rcases h with ⟨h', _⟩ | ⟨_, v, us, rfl, h1, h2⟩
    · cases h'
    · exact .inr ⟨rfl, v, us ++ ws, rfl, h1, ih h2 k⟩
  | _ => intro b vs ws h; exfalso; simp [rel, one] at h

theorem call_ok {G : Nat → PV} {e : Operand → PV} {g : Sto} {n : Nat} {c : Call} {fv : Operand} {f : Nat} {first cap r : PV} (hc : c.callee = .value fv) (hfv : e fv = .func (.func f) first cap)
    (hp : ((first.app (argsE e c.args.toList)).app cap).pure = true) {C : List (Unit → Prop)} (h : (∀ c ∈ C, c ()) → PFun P G f ((first.app (argsE e c.args.toList)).app cap).strip r) : EffOK P G e g n (.call c) { v := r, n, C } := by
  refine ⟨Nat.le_refl _, fun y hy => (by cases hy), fun o M ρ w ev ho hev hI hfree hr hC hG => ?_⟩
  have hop : (Op.call c).operands.toList = fv :: c.args.toList := by simp [Op.operands, Call.operands, hc]
  rw [hop] at hr
  have h0 := hr fv (by simp)
  rw [hfv] at h0
  obtain ⟨fs, cs, h1, h2, h3⟩ := h0
  have h1' : ev fv = .func (.func f) fs.toArray cs.toArray := by simpa [one] using h1
  have hall := strip_rel _ hp (rel_app (rel_app h2 (rel_args (l := c.args.toList) fun x hx => hr x (by simp [hx]))) h3)
  have h := h hC
  obtain ⟨fn, hf, hname, hbody⟩ := h.1
  have hex : (execOp ev o).run P w = .ok (.enter f (fs ++ c.args.toList.map ev ++ cs).toArray) w := by
    unfold execOp
    simp only [ho, resolve, hc, Deferred.ofValue, h1', Sem.run_bind, Sem.run_pure, Result.andThen_ok, invoke, callFunc, run_program, hf, hname, hbody, Bool.false_eq_true, if_false]
    congr 2
    apply Array.ext'
    simp
  unfold OpR
  rw [hex]
  refine (h.use (n := n) hG hI hall).mono ?_
  rintro e' w' ⟨v, rfl, M', k1, k2, k3⟩
  exact ⟨v, rfl, M', ρ, k1, k2, rel_mono (Mem.le_refl _) _ (noNames_le ρ) k3⟩
end Go.Abs
/- RULES for runs. -/
set_option linter.unusedVariables false
set_option linter.unusedSimpArgs false
namespace Go.Abs
variable {P : Program}

/-! ### Slots that hold the same -/
/-- The same values. -/
def Same (v v' : PV) : Prop := ∀ (M : Mem) (ρ : Names) (vs : List Value), rel M v ρ .val vs ↔ rel M v' ρ .val vs
def SameA (A A' : Env) : Prop := ∀ t, Same (A.get t) (A'.get t)
theorem Same.refl (v : PV) : Same v v := fun _ _ _ => Iff.rfl
theorem SameA.put {A A' : Env} (h : SameA A A') (d : Option Nat) (v : PV) : SameA (put A d v) (put A' d v) := by
  intro t
  rw [put_get, put_get]
  split
  · exact Same.refl _
  · exact h t
theorem SameA.opnd {A A' : Env} (h : SameA A A') (G : Nat → PV) (x : Operand) : Same (opnd G A x) (opnd G A' x) := by
  cases x with
  | tmp t => exact h t
  | _ => exact Same.refl _
theorem SameA.guard {A A' : Env} (h : SameA A A') {ops : Array Oper} {g : Option (Nat × Bool)} {r : Bool} (k : GuardP ops A' g r) : GuardP ops A g r := by
  unfold GuardP at *
  cases g with
  | none => exact k
  | some q =>
    obtain ⟨o, d, h1, h2, h3⟩ := k
    exact ⟨o, d, h1, h2, h3.imp (fun h3 M ρ u hu => h3 M ρ u ((h d M ρ _).1 hu)) fun h3 => ⟨h3.1, fun M ρ u hu => h3.2 M ρ u ((h d M ρ _).1 hu)⟩⟩
theorem EffOK.same {G : Nat → PV} {e e' : Operand → PV} (h : ∀ x, Same (e x) (e' x)) {g : Sto} {n : Nat} {op : Op} {E : Eff} (k : EffOK P G e' g n op E) : EffOK P G e g n op E :=
  ⟨k.1, k.2.1, fun o M ρ w ev ho hev hI hfree hr hC hG => k.2.2 o M ρ w ev ho hev hI hfree (fun x hx => (h x M ρ _).1 (hr x hx)) hC hG⟩

theorem TR.same {G : Nat → PV} {N : Nat} {ops : Array Oper} {K : Env → Store → Nat → List (List Nat × List Nat) → Prop} (hK : ∀ A A' S n log, SameA A A' → K A' S n log → K A S n log) {i : Nat} {A' : Env} {S : Store} {n : Nat} {log : List (List Nat × List Nat)}
    (h : TR P G N ops K i A' S n log) : ∀ {A : Env}, SameA A A' → TR P G N ops K i A S n log := by
  induction h with
  | done hi hk => intro A hA; exact .done hi (hK _ _ _ _ _ hA hk)
  | skip ho hs hg _ ih => intro A hA; exact .skip ho hs (hA.guard hg) (ih (hA.put _ _))
  | exec E ho hs hg hE hC _ ih => intro A hA; exact .exec E ho hs (hA.guard hg) (hE.same (hA.opnd _)) hC (ih (hA.put _ _))

section
variable {X : Ctx} {fn : Func} {Q : PV → Store → Prop} {A A' : Env} {S S' : Store} {n n' : Nat}
theorem RelA.same {M : Mem} {ρ : Names} {N : Nat} {a : Act} (h : SameA A A') (k : RelA M ρ N A.get a) : RelA M ρ N A'.get a :=
  ⟨fun t => (h t M ρ _).1 (k.slot t), k.size, k.defers⟩
theorem Mach.same {k : List It} (h : SameA A A') (hr : Mach P X fn Q k A' S n) : Mach P X fn Q k A S n :=
  fun M ρ w a b cs hG hI hn hm hA => hr M ρ w a b cs hG hI hn hm (hA.same h)

theorem Run.same : ∀ {k : List It} {A A' : Env} {S : Store} {n : Nat}, SameA A A' → Run P X fn Q k A' S n → Run P X fn Q k A S n := by
  intro k
  cases k with
  | nil => intro A A' S n h hr; exact ⟨hr.1, hr.2.same h⟩
  | cons x k =>
    cases x with
    | done v => intro A A' S n h hr; exact hr
    | ops d ops i log =>
      intro A A' S n h hr
      refine ⟨hr.1, hr.2.same ?_ h⟩
      rintro A1 A2 S n log hA ⟨h1, h2⟩
      refine ⟨h1, ?_⟩
      rw [run_plain hr.1] at h2 ⊢
      exact h2.same hA
    | _ => intro A A' S n h hr; exact ⟨hr.1, hr.2.same h⟩

theorem same_bool {b : Unit → Bool} {r : Bool} (h : b () = r) : Same (.bool b) (if r then .tt else .ff) := by
  intro M ρ vs
  cases r <;> simp [rel, h]
theorem same_get {t : Nat} {v : PV} (h : Same (A.get t) v) : SameA A ((t, v) :: A) := by
  intro s
  simp only [Env.get]
  cases hb : beqN t s with
  | true =>
    obtain rfl : t = s := by simpa using hb
    exact h
  | false => exact Same.refl _

/-- A bool that isn't known: either way. -/
theorem run_bool {k : List It} (t : Nat) {b : Unit → Bool} (h : A.get t = .bool b) (ht : b () = true → RunC P X fn Q ⟨k, (t, .tt) :: A, S, n⟩) (hf : b () = false → RunC P X fn Q ⟨k, (t, .ff) :: A, S, n⟩) : RunC P X fn Q ⟨k, A, S, n⟩ := by
  cases hb : b () with
  | true => exact Run.same (same_get (t := t) (v := .tt) (by rw [h]; exact same_bool hb)) (ht hb)
  | false => exact Run.same (same_get (t := t) (v := .ff) (by rw [h]; exact same_bool hb)) (hf hb)
end

/-! ### Names that nobody uses any more -/
def PV.under (n : Nat) : PV → Bool
  | .ptr id _ | .ptri id _ _ | .map id => bltN id n
  | .slice (some id) _ _ _ => bltN id n
  | .func _ a b => a.under n && b.under n
  | .iface _ x => x.under n
  | .agg l => l.under n
  | .tuple l => l.under n
  | .cons x r => x.under n && r.under n
  | _ => true
def cutN (ρ : Names) (n : Nat) : Names := fun id => if id < n then ρ id else none
theorem cutN_le (ρ : Names) (n : Nat) : (cutN ρ n).le ρ := by
  intro id v h
  unfold cutN at h
  split at h
  · exact h
  · cases h
theorem cutN_lt {ρ : Names} {n id : Nat} (h : id < n) : cutN ρ n id = ρ id := by simp [cutN, h]
theorem blt_lt {a b : Nat} (h : bltN a b = true) : a < b := by
  simpa using h

theorem rel_cut {M : Mem} {n : Nat} : ∀ (pv : PV) {ρ : Names} {m : Mode} {vs : List Value}, pv.under n = true → rel M pv ρ m vs → rel M pv (cutN ρ n) m vs := by
  intro pv
  induction pv with
  | ptr id off =>
    intro ρ m vs hb ⟨b, h1, h2⟩
    exact ⟨b, by rw [cutN_lt (blt_lt hb)]; exact h1, h2⟩
  | ptri id off idx =>
    intro ρ m vs hb ⟨b, h1, h2⟩
    exact ⟨b, by rw [cutN_lt (blt_lt hb)]; exact h1, h2⟩
  | map id =>
    intro ρ m vs hb ⟨b, h1, h2⟩
    exact ⟨b, by rw [cutN_lt (blt_lt hb)]; exact h1, h2⟩
  | slice tok esz len f ih =>
    intro ρ m vs hb ⟨a, n', cap, h1, h2, h3, h4, h5, h6⟩
    refine ⟨a, n', cap, h1, h2, h3, h4, fun id hid => ?_, h6⟩
    subst hid
    rw [cutN_lt (blt_lt hb)]; exact h5 id rfl
  | func fn first captured ih1 ih2 =>
    intro ρ m vs hb ⟨fs, cs, h1, h2, h3⟩
    simp only [PV.under, Bool.and_eq_true] at hb
    exact ⟨fs, cs, h1, ih1 hb.1 h2, ih2 hb.2 h3⟩
  | iface t x ih => intro ρ m vs hb ⟨v, h1, h2⟩; exact ⟨v, h1, ih hb h2⟩
  | agg l ih =>
    intro ρ m vs hb hx
    rcases hx with ⟨h1, h2⟩ | ⟨h1, cs, h2, h3⟩
    · exact .inl ⟨h1, ih hb h2⟩
    · exact .inr ⟨h1, cs, h2, ih hb h3⟩
  | tuple l ih => intro ρ m vs hb ⟨h1, ws, h2, h3⟩; exact ⟨h1, ws, h2, ih hb h3⟩
  | cons x r ih1 ih2 =>
    intro ρ m vs hb hx
    simp only [PV.under, Bool.and_eq_true] at hb
    rcases hx with ⟨h1, c, d, h2, h3, h4⟩ | ⟨h1, v, ws, h2, h3, h4⟩
    · exact .inl ⟨h1, c, d, h2, ih1 hb.1 h3, ih2 hb.2 h4⟩
    · exact .inr ⟨h1, v, ws, h2, ih1 hb.1 h3, ih2 hb.2 h4⟩
  | _ => intro ρ m vs hb h; exact h

def belowA (n : Nat) : Env → Bool
  | [] => true
  | (_, v) :: r => v.under n && belowA n r
def belowS (n : Nat) : Store → Bool
  | [] => true
  | (id, o) :: r => bltN id n && (match o with | .var v => v.under n | _ => true) && belowS n r
theorem belowA_get : ∀ {A : Env} {n : Nat}, belowA n A = true → ∀ t, (A.get t).under n = true
  | [], n, _, t => rfl
  | (d, v) :: r, n, h, t => by
    simp only [belowA, Bool.and_eq_true] at h
    simp only [Env.get]
    cases beqN d t with
    | true => exact h.1
    | false => exact belowA_get h.2 t
theorem belowS_get : ∀ {S : Store} {n : Nat}, belowS n S = true → ∀ id o, S.get id = some o → id < n ∧ ∀ v, o = .var v → v.under n = true
  | [], n, _, id, o, h => by simp [Store.get] at h
  | (i, x) :: r, n, h, id, o, hg => by
    simp only [belowS, Bool.and_eq_true] at h
    rw [Store.get] at hg
    cases hb : beqN i id with
    | true =>
      simp only [hb, cond_true, Option.some.injEq] at hg
      subst hg
      obtain rfl : i = id := by simpa using hb
      refine ⟨blt_lt h.1.1, fun v hv => ?_⟩
      subst hv
      exact h.1.2
    | false =>
      simp only [hb, cond_false] at hg
      exact belowS_get h.2 id o hg

def inA (A' : Env) : Env → Prop
  | [] => True
  | (t, v) :: r => v = A'.get t ∧ inA A' r
def inS (S' : Store) : Store → Prop
  | [] => True
  | (id, o) :: r => some o = S'.get id ∧ inS S' r
theorem inA_get {A' : Env} : ∀ {A : Env}, inA A' A → ∀ t, A.get t = .undef ∨ A.get t = A'.get t
  | [], _, t => .inl rfl
  | (d, v) :: r, h, t => by
    simp only [Env.get]
    cases hb : beqN d t with
    | true =>
      obtain rfl : d = t := by simpa using hb
      exact .inr h.1
    | false => exact inA_get h.2 t
theorem inS_get {S' : Store} : ∀ {S : Store}, inS S' S → ∀ id o, S.get id = some o → S'.get id = some o
  | [], _, id, o, h => by simp [Store.get] at h
  | (i, x) :: r, h, id, o, hg => by
    rw [Store.get] at hg
    cases hb : beqN i id with
    | true =>
      simp only [hb, cond_true, Option.some.injEq] at hg
      subst hg
      obtain rfl : i = id := by simpa using hb
      exact h.1.symm
    | false =>
      simp only [hb, cond_false] at hg
      exact inS_get h.2 id o hg

theorem SObj.ok_cut {M : Mem} {ρ : Names} {w : World} {v : Value} {o : SObj} {n : Nat} (h : o.ok M ρ w v) (hb : ∀ pv, o = .var pv → pv.under n = true) : o.ok M (cutN ρ n) w v := by
  cases o with
  | var pv =>
    obtain ⟨b, c, t, h1, h2, h3, h4⟩ := h
    exact ⟨b, c, t, h1, h2, rel_cut _ (hb pv rfl) h3, h4⟩
  | _ => exact h

/-- Fewer slots, fewer objects, fewer names. -/
theorem run_drop {X : Ctx} {fn : Func} {Q : PV → Store → Prop} {k : List It} {A A' : Env} {S S' : Store} {n n' : Nat} (hk : plainK k = true) (h : RunC P X fn Q ⟨k, A, S, n⟩) (hA : belowA n A = true) (hS : belowS n S = true) (hn : bleN n n' = true) (h0 : bleN X.n0 n = true)
    (hAe : inA A' A) (hSe : inS S' S) : RunC P X fn Q ⟨k, A', S', n'⟩ := by
  refine (run_plain hk).2 fun M ρ w a b cs hG hI hf hm hR => ?_
  have hn' : n ≤ n' := by simpa using hn
  have h0' : X.n0 ≤ n := by simpa using h0
  have hIc : Inv M (cutN ρ n) S.get w := by
    refine ⟨hI.mem, fun id o ho => ?_, fun id id' o o' ho ho' hne b hb hb' => ?_⟩
    · obtain ⟨h1, h2⟩ := belowS_get hS id o ho
      obtain ⟨v, hv, hok⟩ := hI.obj id o (inS_get hSe id o ho)
      exact ⟨v, by rw [cutN_lt h1]; exact hv, SObj.ok_cut hok h2⟩
    · have h1 := (belowS_get hS id o ho).1
      have h2 := (belowS_get hS id' o' ho').1
      simp only [at?, cutN_lt h1] at hb
      simp only [at?, cutN_lt h2] at hb'
      exact hI.apart id id' o o' (inS_get hSe id o ho) (inS_get hSe id' o' ho') hne b hb hb'
  have hRc : RelA M (cutN ρ n) X.N A.get a := by
    refine ⟨fun t => ?_, hR.size, hR.defers⟩
    rcases inA_get hAe t with h1 | h1
    · rw [h1]; exact ⟨rfl, _, rfl⟩
    · refine rel_cut _ (belowA_get hA t) ?_
      rw [h1]; exact hR.slot t
  obtain ⟨todo, a', w', M', ρ', v, S2, u, h1, h2, h3⟩ := (run_plain hk).1 h M (cutN ρ n) w a b cs hG hIc (fun id hid => by simp only [cutN]; rw [if_neg (Nat.not_lt.2 hid)]) h0' hRc
  have hocc : ∀ b, occ (cutN ρ n) S.get b → occ ρ S'.get b := by
    rintro b ⟨id, o, ho, hb⟩
    refine ⟨id, o, inS_get hSe id o ho, ?_⟩
    simpa only [at?, cutN_lt (belowS_get hS id o ho).1] using hb
  refine ⟨todo, a', w', M', ρ', v, S2, u, h1, ⟨h2.inv, h2.defers, h2.mem, fun id hid => ?_, h2.os, h2.tape, h2.output, h2.size, fun b hb ho => h2.heap b hb fun h => ho (hocc b h), fun b hb => ?_, fun b i h h' => ?_⟩, h3⟩
  · rw [h2.names id hid, cutN_lt (by omega)]
  · exact (h2.blks b hb).imp id (hocc b)
  · exact (h2.mnew b i h h').imp id (hocc b)

/-- A loop. -/
theorem run_loop {X : Ctx} {fn : Func} {Q : PV → Store → Prop} {c : Code} {k : List It} {ι : Type} (μ : ι → Nat) (A : ι → Env) (S : ι → Store) (n : Nat) (I : ι → Prop) (hk : plainK k = true)
    (h : ∀ i, I i → (∀ j, I j → μ j < μ i → RunC P X fn Q ⟨.inLoop c :: k, A j, S j, n⟩) → RunC P X fn Q ⟨.code c :: .inLoop c :: k, A i, S i, n⟩) (i : ι) (hi : I i) : RunC P X fn Q ⟨.inLoop c :: k, A i, S i, n⟩ := by
  generalize hm : μ i = m
  induction m using Nat.strongRecOn generalizing i with
  | _ m ih =>
    have h1 := h i hi fun j hj hlt => ih (μ j) (by omega) j hj rfl
    have hk' : plainK (.inLoop c :: k) = true := hk
    have hk'' : plainK (.code c :: .inLoop c :: k) = true := hk
    exact (run_plain hk').2 (mach_step (fun _ _ _ _ => step_inLoop) ((run_plain hk'').1 h1))

/-! ### The evaluator with more operations -/
abbrev OpX := (Operand → PV) → Sto → Nat → Op → Option Eff
def OpXOK (P : Program) (G : Nat → PV) (O : OpX) : Prop := ∀ e g n op E, O e g n op = some E → EffOK P G e g n op E

def xStep (X : Ctx) (O : OpX) : Cfg → Option (Cfg × List (Unit → Prop))
  | ⟨.ops d ops i log :: k, A, S, n⟩ => match ops[i]? with
    | some o => bif slotOK X.N o.dst then (match guardE ops A o.guard with
      | some true => match O (opnd X.G A) S.get n o.op with
        | some E => some (⟨.ops d ops (i + 1) (log ++ [(E.F, E.W.map (·.1))]) :: k, put A o.dst E.v, setAll S E.W, E.n⟩, E.C)
        | none => none
      | _ => none) else none
    | none => none
  | _ => none
def stepF (X : Ctx) (O : OpX) (c : Cfg) : Option (Cfg × List (Unit → Prop)) :=
  match step1 X c with
  | some q => some q
  | none => xStep X O c

theorem xStep_ok {X : Ctx} {fn : Func} {O : OpX} (hO : OpXOK P X.G O) {Q : PV → Store → Prop} {c c' : Cfg} {C : List (Unit → Prop)} (hwf : wfK c.k = true) (h : xStep X O c = some (c', C)) :
    wfK c'.k = true ∧ ((∀ q ∈ C, q ()) → RunC P X fn Q c' → RunC P X fn Q c) := by
  unfold xStep at h
  split at h
  · rename_i d ops i log k A S n
    have hk : plainK k = true := hwf
    cases ho : ops[i]? with
    | none => simp [ho] at h
    | some o =>
      simp only [ho] at h
      cases hs : slotOK X.N o.dst with
      | false => simp [hs] at h
      | true =>
        simp only [hs, cond_true] at h
        split at h
        · rename_i hg
          cases hE : O (opnd X.G A) S.get n o.op with
          | none => simp [hE] at h
          | some E =>
            simp only [hE, Option.some.injEq, Prod.mk.injEq] at h
            obtain ⟨rfl, rfl⟩ := h
            exact ⟨hk, fun hC hr => ⟨hk, .exec E ho hs (guardE_P hg) (hO _ _ _ _ _ hE) hC hr.2⟩⟩
        · cases h
  · cases h

def stepsF (X : Ctx) (O : OpX) : Nat → Cfg → Cfg × List (Unit → Prop)
  | 0, c => (c, [])
  | m + 1, c => match stepF X O c with
    | some (c', C) => match stepsF X O m c' with
      | (c'', C') => (c'', C ++ C')
    | none => (c, [])

theorem stepsF_ok {X : Ctx} {fn : Func} (hX : OK P X fn) {O : OpX} (hO : OpXOK P X.G O) {Q : PV → Store → Prop} : ∀ (m : Nat) (c : Cfg), wfK c.k = true →
    wfK (stepsF X O m c).1.k = true ∧ (conds (stepsF X O m c).2 → RunC P X fn Q (stepsF X O m c).1 → RunC P X fn Q c)
  | 0, c, hwf => ⟨hwf, fun _ h => h⟩
  | m + 1, c, hwf => by
    rw [stepsF]
    cases h : stepF X O c with
    | none => exact ⟨hwf, fun _ h => h⟩
    | some q =>
      obtain ⟨c', C⟩ := q
      have hone : wfK c'.k = true ∧ ((∀ q ∈ C, q ()) → RunC P X fn Q c' → RunC P X fn Q c) := by
        unfold stepF at h
        cases h1 : step1 X c with
        | some q' => rw [h1] at h; simp only [Option.some.injEq] at h; subst h; exact step1_ok hX hwf h1
        | none => rw [h1] at h; exact xStep_ok hO hwf h
      obtain ⟨h1, h2⟩ := hone
      obtain ⟨h3, h4⟩ := stepsF_ok hX hO (Q := Q) m c' h1
      exact ⟨h3, fun hC hr => h2 (conds_mem (conds_append hC).1) (h4 (conds_append hC).2 hr)⟩
end Go.Abs
/- TYPES: a table's facts from what the program's load gives. -/
set_option linter.unusedVariables false
set_option linter.unusedSimpArgs false
namespace Go.Abs
variable {P : Program}

/-- Is a list of cells the cells of such a value? -/
def zeroB : PV → List Value → Bool
  | .ff, [.bool false] => true
  | .int k n, [.int k' m] => decide (k = k') && decide (n () = m)
  | .str s, [.string t] => decide (s () = t)
  | .nilp, [.pointer none] => true
  | .nils, [.slice none 0 0] => true
  | .nilm, [.map none] => true
  | .nilf, [.nilFunc] => true
  | .nili, [.nilIface] => true
  | .agg l, vs => zeroB l vs
  | .arrI k n l, vs => beqN (l ()).length n && ints k (l ()) vs
  | .arrB n l, vs => beqN (l ()).length n && bools (l ()) vs
  | .arrS n l, vs => beqN (l ()).length n && strs (l ()) vs
  | .nil, [] => true
  | .cons x r, vs => zeroB x (vs.take x.size) && zeroB r (vs.drop x.size)
  | _, _ => false
  where
  ints (k : IntKind) : List Int → List Value → Bool
    | [], [] => true
    | i :: l, .int k' j :: r => decide (k = k') && decide (i = j) && ints k l r
    | _, _ => false
  bools : List Bool → List Value → Bool
    | [], [] => true
    | i :: l, .bool j :: r => (i == j) && bools l r
    | _, _ => false
  strs : List ByteArray → List Value → Bool
    | [], [] => true
    | i :: l, .string j :: r => decide (i = j) && strs l r
    | _, _ => false

theorem ints_ok {k : IntKind} : ∀ {l : List Int} {vs : List Value}, zeroB.ints k l vs = true → vs = l.map (.int k)
  | [], [], _ => rfl
  | i :: l, v :: vs, h => by
    cases v <;> simp_all [zeroB.ints]
    obtain ⟨⟨rfl, rfl⟩, h⟩ := h
    exact ints_ok h
  | [], _ :: _, h => by simp [zeroB.ints] at h
  | _ :: _, [], h => by simp [zeroB.ints] at h
theorem bools_ok : ∀ {l : List Bool} {vs : List Value}, zeroB.bools l vs = true → vs = l.map .bool
  | [], [], _ => rfl
  | i :: l, v :: vs, h => by
    cases v <;> simp_all [zeroB.bools]
    exact bools_ok h.2
  | [], _ :: _, h => by simp [zeroB.bools] at h
  | _ :: _, [], h => by simp [zeroB.bools] at h
theorem strs_ok : ∀ {l : List ByteArray} {vs : List Value}, zeroB.strs l vs = true → vs = l.map .string
  | [], [], _ => rfl
  | i :: l, v :: vs, h => by
    cases v <;> simp_all [zeroB.strs]
    exact strs_ok h.2
  | [], _ :: _, h => by simp [zeroB.strs] at h
  | _ :: _, [], h => by simp [zeroB.strs] at h

theorem zeroB_ok {M : Mem} {ρ : Names} : ∀ {pv : PV} {vs : List Value}, zeroB pv vs = true → rel M pv ρ .cells vs := by
  intro pv
  induction pv with
  | ff => intro vs h; match vs, h with | [.bool false], _ => exact ⟨by simp, rfl⟩
  | int k n =>
    intro vs h
    match vs, h with
    | [.int k' m], h =>
      simp only [zeroB, Bool.and_eq_true, decide_eq_true_eq] at h
      obtain ⟨rfl, rfl⟩ := h
      exact ⟨by simp, rfl⟩
  | str s =>
    intro vs h
    match vs, h with
    | [.string t], h =>
      simp only [zeroB, decide_eq_true_eq] at h
      subst h
      exact ⟨by simp, rfl⟩
  | nilp => intro vs h; match vs, h with | [.pointer none], _ => exact ⟨by simp, rfl⟩
  | nils => intro vs h; match vs, h with | [.slice none 0 0], _ => exact ⟨by simp, rfl⟩
  | nilm => intro vs h; match vs, h with | [.map none], _ => exact ⟨by simp, rfl⟩
  | nilf => intro vs h; match vs, h with | [.nilFunc], _ => exact ⟨by simp, rfl⟩
  | nili => intro vs h; match vs, h with | [.nilIface], _ => exact ⟨by simp, rfl⟩
  | agg l ih => intro vs h; rw [zeroB] at h; exact .inl ⟨rfl, ih h⟩
  | arrI k n l =>
    intro vs h
    simp only [zeroB, Bool.and_eq_true] at h
    exact ⟨by simpa using h.1, .inl ⟨rfl, ints_ok h.2⟩⟩
  | arrB n l =>
    intro vs h
    simp only [zeroB, Bool.and_eq_true] at h
    exact ⟨by simpa using h.1, .inl ⟨rfl, bools_ok h.2⟩⟩
  | arrS n l =>
    intro vs h
    simp only [zeroB, Bool.and_eq_true] at h
    exact ⟨by simpa using h.1, .inl ⟨rfl, strs_ok h.2⟩⟩
  | nil => intro vs h; match vs, h with | [], _ => exact ⟨by simp, rfl⟩
  | cons x r ih1 ih2 =>
    intro vs h
    simp only [zeroB, Bool.and_eq_true] at h
    exact .inl ⟨rfl, _, _, (List.take_append_drop x.size vs).symm, ih1 h.1, ih2 h.2⟩
  | _ => intro vs h; simp [zeroB] at h

def zeroV (pv : PV) : Option Value → Bool
  | some (.agg cs) => pv.wide && zeroB pv cs.toList
  | some v => pv.leaf && zeroB pv [v]
  | none => false
theorem zeroV_ok {M : Mem} {ρ : Names} {pv : PV} {z : Option Value} (h : zeroV pv z = true) : ∃ v, z = some v ∧ rel M pv ρ .val [v] := by
  cases z with
  | none => simp [zeroV] at h
  | some v =>
    refine ⟨v, rfl, ?_⟩
    by_cases hv : ∃ cs, v = .agg cs
    · obtain ⟨cs, rfl⟩ := hv
      simp only [zeroV, Bool.and_eq_true] at h
      simpa using wide_rel h.1 (zeroB_ok (M := M) (ρ := ρ) h.2)
    · have h' : (pv.leaf && zeroB pv [v]) = true := by
        cases v <;> first | exact h | exact absurd ⟨_, rfl⟩ hv
      simp only [Bool.and_eq_true] at h'
      obtain ⟨u, e, _, hr⟩ := rel_leaf h'.1 (zeroB_ok (M := M) (ρ := ρ) h'.2)
      simp only [List.cons.injEq, and_true] at e
      subst e
      exact hr .val (by simp)

/-- Is it such a type? -/
def descB (n : Nat) : TD → TypeDesc → Bool
  | .other, _ => true
  | .bool, .bool => true
  | .int k, .int k' => decide (k = k')
  | .str, .string => true
  | .ptr e, .pointer e' => beqN e e'
  | .slice e, .slice e' => beqN e e'
  | .arr m e, .array m' e' => beqN m m' && beqN e e'
  | .struct fs, .struct a => fields fs a.toList
  | .map k e, .map k' e' => beqN k k' && beqN e e'
  | .func, .func _ _ _ => true
  | .iface, .interface _ => true
  | _, _ => false
  where
  fields : List (Nat × Nat) → List Field → Bool
    | [], [] => true
    | (o, t) :: r, f :: l => beqN o f.offset && beqN t f.type && bltN f.type n && decide (f.name ≠ "_") && fields r l
    | _, _ => false

theorem info_of {t : TypeId} {inf : TypeInfo} (h : P.types[t]? = some inf) : P.info? t = some inf := by
  unfold Tables.info?
  rw [if_pos (lt_of_get h)]; exact h
theorem info_lt {t : TypeId} (h : t < P.types.size) : ∃ inf, P.info? t = some inf := ⟨P.types[t], info_of (by simp [h])⟩

theorem fields_ok {n : Nat} (hn : n = P.types.size) : ∀ {fs : List (Nat × Nat)} {l : List Field}, descB.fields n fs l = true →
    l.map (fun f => (f.offset, f.type)) = fs ∧ ∀ f ∈ l, f.name ≠ "_" ∧ ∃ inf, P.info? f.type = some inf
  | [], [], _ => ⟨rfl, fun f hf => by cases hf⟩
  | (o, t) :: r, f :: l, h => by
    simp only [descB.fields, Bool.and_eq_true, decide_eq_true_eq] at h
    obtain ⟨⟨⟨⟨h1, h2⟩, h3⟩, h4⟩, h5⟩ := h
    obtain ⟨k1, k2⟩ := fields_ok hn h5
    refine ⟨?_, fun g hg => ?_⟩
    · rw [List.map_cons, k1]
      have : o = f.offset := by simpa using h1
      have : t = f.type := by simpa using h2
      subst_vars; rfl
    · rcases List.mem_cons.1 hg with rfl | hg
      · exact ⟨h4, info_lt (by rw [← hn]; exact h3)⟩
      · exact k2 g hg
  | [], _ :: _, h => by simp [descB.fields] at h
  | _ :: _, [], h => by simp [descB.fields] at h

theorem descB_ok {n : Nat} (hn : n = P.types.size) {t : TypeId} {d : TypeDesc} (hu : P.underlying t = some d) {td : TD} (h : descB n td d = true) : td.fits P t := by
  cases td with
  | other => trivial
  | bool => cases d <;> simp [descB] at h; exact hu
  | int k => cases d <;> simp [descB] at h; subst h; exact hu
  | str => cases d <;> simp [descB] at h; exact hu
  | ptr e => cases d <;> simp [descB] at h; subst h; exact hu
  | slice e => cases d <;> simp [descB] at h; subst h; exact hu
  | arr m e => cases d <;> simp [descB] at h; obtain ⟨rfl, rfl⟩ := h; exact hu
  | struct fs =>
    cases d <;> simp [descB] at h
    rename_i a
    obtain ⟨h1, h2⟩ := fields_ok hn h
    exact ⟨a, hu, h1, fun f hf => h2 f hf⟩
  | map k e => cases d <;> simp [descB] at h; obtain ⟨rfl, rfl⟩ := h; exact hu
  | func => cases d <;> simp [descB] at h; exact ⟨_, _, _, hu⟩
  | iface => cases d <;> simp [descB] at h; exact ⟨_, hu⟩

/-- All that can be computed of a type's facts. -/
def tokB (n : Nat) (inf : TypeInfo) (d : TypeDesc) (i : TI) : Bool :=
  beqN inf.size i.size && beqN inf.bytes i.bytes && zeroV i.zero inf.zero && descB n i.d d && (d.isRow == i.zero.wide) && (i.zero.wide || i.zero.leaf) && (i.zero.wide == i.d.wide) && beqN i.size i.zero.size

theorem tok {n : Nat} (hn : n = P.types.size) {t : TypeId} {inf : TypeInfo} {d : TypeDesc} {i : TI} (h1 : P.types[t]? = some inf) (h2 : P.underlying t = some d) (h : tokB n inf d i = true) (hw : i.d.wide = true → P.stoodInHeld t = false ∧ P.eqGuardType P.depth t = false) : TOK P t i := by
  simp only [tokB, Bool.and_eq_true, beq_iff_eq, Bool.or_eq_true] at h
  obtain ⟨⟨⟨⟨⟨⟨⟨k1, k2⟩, k3⟩, k4⟩, k5⟩, k6⟩, k7⟩, k8⟩ := h
  obtain ⟨z, hz1, hz2⟩ := zeroV_ok (M := noMem) (ρ := noNames) k3
  exact ⟨⟨inf, z, info_of h1, by simpa using k1, by simpa using k2, hz1, hz2⟩, descB_ok hn h2 k4, ⟨d, h2, k5⟩, k6, k7, by simpa using k8, hw⟩

theorem TT_none : TT P (fun _ => none) := fun t i h => by cases h
theorem TT_leaf {k : Nat} {i : TI} (h : TOK P k i) : TT P (fun t => bif beqN t k then some i else none) := by
  intro t j hj
  cases hb : beqN t k with
  | false => simp [hb] at hj
  | true =>
    simp only [hb, cond_true, Option.some.injEq] at hj
    subst hj
    obtain rfl : t = k := by simpa using hb
    exact h
theorem TT_bif {c : Nat → Bool} {T1 T2 : Nat → Option TI} (h1 : TT P T1) (h2 : TT P T2) : TT P (fun t => bif c t then T1 t else T2 t) := by
  intro t j hj
  cases hb : c t with
  | false => simp only [hb, cond_false] at hj; exact h2 t j hj
  | true => simp only [hb, cond_true] at hj; exact h1 t j hj
end Go.Abs
/- WHAT A RESULT IS, and the theorem by which a walk is begun and gone on with. -/
set_option linter.unusedVariables false
set_option linter.unusedSimpArgs false
namespace Go.Abs
variable {P : Program}

/-- One value's word holds of whatever the other one's holds of. -/
def impP : PV → PV → Prop
  | .tt, .bool b => b () = true
  | .ff, .bool b => b () = false
  | .bool a, .bool b => a () = b ()
  | .bool a, .tt => a () = true
  | .bool a, .ff => a () = false
  | .int k n, .int k' m => k = k' ∧ n () = m ()
  | .str s, .str t => s () = t ()
  | .arrI k n l, .arrI k' n' l' => k = k' ∧ n = n' ∧ l () = l' ()
  | .arrB n l, .arrB n' l' => n = n' ∧ l () = l' ()
  | .arrS n l, .arrS n' l' => n = n' ∧ l () = l' ()
  | .nils, .slice none _ len _ => len () = 0
  | .slice tok esz len f, .slice tok' esz' len' f' => (tok' = none ∨ tok' = tok) ∧ esz = esz' ∧ len () = len' () ∧ ∀ j : Int, 0 ≤ j → j < len () → impP (f fun _ => j) (f' fun _ => j)
  | .agg l, .agg l' => impP l l'
  | .tuple l, .tuple l' => impP l l'
  | .cons x r, .cons x' r' => impP x x' ∧ impP r r'
  | p, q => p = q

theorem impP_ok {M : Mem} : ∀ (p q : PV) {ρ : Names} {m : Mode} {vs : List Value}, impP p q → rel M p ρ m vs → rel M q ρ m vs := by
  intro p
  induction p with
  | tt => intro q ρ m vs h hr; cases q <;> simp_all [impP, rel]
  | ff => intro q ρ m vs h hr; cases q <;> simp_all [impP, rel]
  | bool a => intro q ρ m vs h hr; cases q <;> simp_all [impP, rel]
  | int k n =>
    intro q ρ m vs h hr
    cases q <;> try (simp [impP] at h; done)
    simp only [impP] at h
    obtain ⟨rfl, h⟩ := h
    simp only [rel] at hr ⊢
    rwa [← h]
  | str s =>
    intro q ρ m vs h hr
    cases q <;> try (simp [impP] at h; done)
    simp only [impP] at h
    simp only [rel] at hr ⊢
    rwa [← h]
  | arrI k n l =>
    intro q ρ m vs h hr
    cases q <;> try (simp [impP] at h; done)
    simp only [impP] at h
    obtain ⟨rfl, rfl, h⟩ := h
    simp only [rel] at hr ⊢
    rwa [← h]
  | arrB n l =>
    intro q ρ m vs h hr
    cases q <;> try (simp [impP] at h; done)
    simp only [impP] at h
    obtain ⟨rfl, h⟩ := h
    simp only [rel] at hr ⊢
    rwa [← h]
  | arrS n l =>
    intro q ρ m vs h hr
    cases q <;> try (simp [impP] at h; done)
    simp only [impP] at h
    obtain ⟨rfl, h⟩ := h
    simp only [rel] at hr ⊢
    rwa [← h]
  | nils =>
    intro q ρ m vs h hr
    cases q with
    | slice tok esz len f =>
      cases tok with
      | none =>
        simp only [impP] at h
        exact ⟨none, 0, 0, hr, by simp [h], Nat.le_refl _, Nat.zero_le _, fun id hid => (by cases hid), fun hn => (by omega)⟩
      | some id => simp [impP] at h
    | _ => simp only [impP] at h; first | (cases h; done) | (subst h; exact hr) | exact hr
  | slice tok esz len f ih =>
    intro q ρ m vs h hr
    cases q with
    | slice tok' esz' len' f' =>
      simp only [impP] at h
      obtain ⟨h0, rfl, h1, h2⟩ := h
      obtain ⟨a, n, cap, k1, k2, k3, k4, k5, k6⟩ := hr
      refine ⟨a, n, cap, k1, k2.trans h1, k3, k4, fun id hid => ?_, fun hn => ?_⟩
      · rcases h0 with h0 | h0
        · rw [h0] at hid; cases hid
        · exact k5 id (by rw [← h0]; exact hid)
      obtain ⟨b, base, e, hrow⟩ := k6 hn
      refine ⟨b, base, e, fun j hj => ?_⟩
      obtain ⟨cs, c1, c2, c3⟩ := hrow j hj
      exact ⟨cs, c1, ih _ _ (h2 j (by omega) (by omega)) c2, c3⟩
    | _ => simp only [impP] at h; cases h
  | agg l ih =>
    intro q ρ m vs h hr
    cases q with
    | agg l' =>
      simp only [impP] at h
      rcases hr with ⟨h1, h2⟩ | ⟨h1, cs, h2, h3⟩
      · exact .inl ⟨h1, ih _ h h2⟩
      · exact .inr ⟨h1, cs, h2, ih _ h h3⟩
    | _ => simp only [impP] at h; cases h
  | tuple l ih =>
    intro q ρ m vs h hr
    cases q with
    | tuple l' =>
      simp only [impP] at h
      obtain ⟨h1, ws, h2, h3⟩ := hr
      exact ⟨h1, ws, h2, ih _ h h3⟩
    | _ => simp only [impP] at h; cases h
  | cons x r ih1 ih2 =>
    intro q ρ m vs h hr
    cases q with
    | cons x' r' =>
      simp only [impP] at h
      rcases hr with ⟨h1, c, d, h2, h3, h4⟩ | ⟨h1, v, ws, h2, h3, h4⟩
      · exact .inl ⟨h1, c, d, h2, ih1 _ h.1 h3, ih2 _ h.2 h4⟩
      · exact .inr ⟨h1, v, ws, h2, ih1 _ h.1 h3, ih2 _ h.2 h4⟩
    | _ => simp only [impP] at h; cases h
  | _ => intro q ρ m vs h hr; simp only [impP] at h; subst h; exact hr

/-- What is yet to be shown behind some steps. -/
def Good (P : Program) (X : Ctx) (fn : Func) (Q : PV → Store → Prop) : Cfg × List (Unit → Prop) → Prop
  | (c, C) => conds C ∧ RunC P X fn Q c
theorem run_go {X : Ctx} {fn : Func} (hX : OK P X fn) {O : OpX} (hO : OpXOK P X.G O) {Q : PV → Store → Prop} {c : Cfg} (m : Nat) (hwf : wfK c.k = true) (h : Good P X fn Q (stepsF X O m c)) : RunC P X fn Q c := by
  have h2 := (stepsF_ok hX hO (Q := Q) m c hwf).2
  revert h h2
  cases stepsF X O m c with
  | mk a b => exact fun h h2 => h2 h.1 h.2

/-- What a function of values alone must hand back. -/
def Ret (r : PV) : PV → Store → Prop := fun pv _ => pv.pure = true ∧ impP pv.strip r

/-- A function's text and what a walk needs of it. -/
structure FnOK (P : Program) (X : Ctx) (f : Nat) (fn : Func) (c : Code) : Prop where
  func : P.funcs[f]? = some fn
  name : (fn.name == "runtime.NumGoroutine") = false
  body : fn.body = some c
  ntmps : fn.ntmps = X.N
  n0 : X.n0 = 0
  ok : OK P X fn

theorem FnOK.walk {X : Ctx} {f : Nat} {fn : Func} {c : Code} (h : FnOK P X f fn c) {O : OpX} (hO : OpXOK P X.G O) {args r : PV} (m : Nat) (hle : bleN args.count X.N = true)
    (hr : Good P X fn (Ret r) (stepsF X O m ⟨[.code c], Env.enter 0 args, [], 0⟩)) : PFun P X.G f args r := by
  refine ⟨⟨fn, h.func, h.name, by rw [h.body]; rfl⟩, fun M w vs hG hI hv => (calls_of_run h.func h.body h.ntmps (by simpa using hle) (by rw [h.n0]; exact Nat.le_refl _) (run_go h.ok hO m rfl hr) hG hI (fun _ _ => rfl) hv).mono ?_⟩
  rintro e w' ⟨M', ρ', v, pv, S', a', rfl, h1, h2, h3, h4⟩
  exact ⟨M', ρ', v, S', a', rfl, by rw [h.n0] at h1; exact h1, impP_ok _ _ h4 (strip_rel _ h3 h2)⟩
end Go.Abs
/- ALL PATHS of a function's text that has no loop. -/
set_option linter.unusedVariables false
set_option linter.unusedSimpArgs false
namespace Go.Abs
variable {P : Program}

inductive Tree where
  | leaf (v : PV) (S : Store)
  | br (b : Unit → Bool) (t f : Tree)
  | need (C : List (Unit → Prop)) (t : Tree)
  | stuck (c : Cfg)

/-- The slot whose bool would have to be known. -/
def stuckOn : Cfg → Option Nat
  | ⟨.code (.cond (.tmp t) _ _) :: _, _, _, _⟩ => some t
  | ⟨.ops _ ops i _ :: _, _, _, _⟩ => match ops[i]? with
    | some o => match o.guard with
      | some (j, _) => match ops[j]? with
        | some oj => oj.dst
        | none => none
      | none => none
    | none => none
  | _ => none

def need1 : List (Unit → Prop) → Tree → Tree
  | [], t => t
  | C, t => .need C t

/-- What comes behind some steps. -/
inductive Nx where
  | leaf (v : PV) (S : Store)
  | br (b : Unit → Bool) (c c' : Cfg)
  | on (c : Cfg)
  | stuck (c : Cfg)
def askE (A : Env) (t : Nat) (c : Cfg) : Nx :=
  match A.get t with
  | .bool b => .br b ⟨c.k, (t, .tt) :: A, c.S, c.n⟩ ⟨c.k, (t, .ff) :: A, c.S, c.n⟩
  | _ => .stuck c
def next (u : Bool) : Cfg → Nx
  | ⟨.done v :: _, _, S, _⟩ => .leaf v S
  | ⟨.inLoop c :: k, A, S, n⟩ => bif u then .on ⟨.code c :: .inLoop c :: k, A, S, n⟩ else .stuck ⟨.inLoop c :: k, A, S, n⟩
  | c => match stuckOn c with
    | some t => askE c.A t c
    | none => .stuck c

/-- 'u': are loops gone through round by round? -/
def explore (X : Ctx) (O : OpX) (u : Bool) : Nat → Cfg → Tree
  | 0, c => .stuck c
  | m + 1, c => match stepsF X O 4000 c with
    | (c', C) => match next u c' with
      | .leaf v S => need1 C (.leaf v S)
      | .br b c1 c2 => need1 C (.br b (explore X O u m c1) (explore X O u m c2))
      | .on c1 => need1 C (explore X O u m c1)
      | .stuck c1 => need1 C (.stuck c1)

def TreeOK (P : Program) (X : Ctx) (fn : Func) (Q : PV → Store → Prop) : Tree → Prop
  | .leaf v S => Q v S
  | .br b t f => (b () = true → TreeOK P X fn Q t) ∧ (b () = false → TreeOK P X fn Q f)
  | .need C t => conds C ∧ TreeOK P X fn Q t
  | .stuck c => RunC P X fn Q c

theorem need1_ok {X : Ctx} {fn : Func} {Q : PV → Store → Prop} {C : List (Unit → Prop)} {t : Tree} (h : TreeOK P X fn Q (need1 C t)) : conds C ∧ TreeOK P X fn Q t := by
  cases C with
  | nil => exact ⟨trivial, h⟩
  | cons c C => exact h

theorem next_ok {X : Ctx} {fn : Func} {Q : PV → Store → Prop} {u : Bool} {c : Cfg} (hwf : wfK c.k = true) : match next u c with
    | .leaf v S => Q v S → RunC P X fn Q c
    | .br b c1 c2 => wfK c1.k = true ∧ wfK c2.k = true ∧ ((b () = true → RunC P X fn Q c1) → (b () = false → RunC P X fn Q c2) → RunC P X fn Q c)
    | .on c1 => wfK c1.k = true ∧ (RunC P X fn Q c1 → RunC P X fn Q c)
    | .stuck c1 => c1 = c := by
  have hask : ∀ t, match askE c.A t c with
    | .leaf v S => Q v S → RunC P X fn Q c
    | .br b c1 c2 => wfK c1.k = true ∧ wfK c2.k = true ∧ ((b () = true → RunC P X fn Q c1) → (b () = false → RunC P X fn Q c2) → RunC P X fn Q c)
    | .on c1 => wfK c1.k = true ∧ (RunC P X fn Q c1 → RunC P X fn Q c)
    | .stuck c1 => c1 = c := by
    intro t
    unfold askE
    cases hA : c.A.get t <;> try exact rfl
    exact ⟨hwf, hwf, fun h1 h2 => run_bool t hA h1 h2⟩
  have hrest : match (match stuckOn c with
      | some t => askE c.A t c
      | none => .stuck c) with
    | .leaf v S => Q v S → RunC P X fn Q c
    | .br b c1 c2 => wfK c1.k = true ∧ wfK c2.k = true ∧ ((b () = true → RunC P X fn Q c1) → (b () = false → RunC P X fn Q c2) → RunC P X fn Q c)
    | .on c1 => wfK c1.k = true ∧ (RunC P X fn Q c1 → RunC P X fn Q c)
    | .stuck c1 => c1 = c := by
    cases stuckOn c with
    | none => rfl
    | some t => exact hask t
  obtain ⟨k, A, S, n⟩ := c
  cases k with
  | nil => exact hrest
  | cons x k =>
    cases x with
    | done v => exact fun h => h
    | inLoop c0 =>
      cases u with
      | false => exact rfl
      | true =>
        have hk : plainK (.inLoop c0 :: k) = true := hwf
        exact ⟨wf_plain (k := .code c0 :: .inLoop c0 :: k) hk, fun h3 => (run_plain hk).2 (mach_step (fun _ _ _ _ => step_inLoop) ((run_plain (k := .code c0 :: .inLoop c0 :: k) hk).1 h3))⟩
    | _ => exact hrest

theorem explore_ok {X : Ctx} {fn : Func} (hX : OK P X fn) {O : OpX} (hO : OpXOK P X.G O) {Q : PV → Store → Prop} {u : Bool} : ∀ (m : Nat) (c : Cfg), wfK c.k = true → TreeOK P X fn Q (explore X O u m c) → RunC P X fn Q c
  | 0, c, _, h => h
  | m + 1, c, hwf, h => by
    have hs := stepsF_ok hX hO (Q := Q) 4000 c hwf
    rw [explore] at h
    generalize stepsF X O 4000 c = q at h hs
    obtain ⟨c', C⟩ := q
    simp only at hs h
    have hn := next_ok (P := P) (X := X) (fn := fn) (Q := Q) (u := u) hs.1
    cases hx : next u c' with
    | leaf v S =>
      rw [hx] at h hn
      exact hs.2 (need1_ok h).1 (hn (need1_ok h).2)
    | br b c1 c2 =>
      rw [hx] at h hn
      obtain ⟨h1, h2⟩ := need1_ok h
      exact hs.2 h1 (hn.2.2 (fun ht => explore_ok hX hO m _ hn.1 (h2.1 ht)) (fun hf => explore_ok hX hO m _ hn.2.1 (h2.2 hf)))
    | on c1 =>
      rw [hx] at h hn
      obtain ⟨h1, h2⟩ := need1_ok h
      exact hs.2 h1 (hn.2 (explore_ok hX hO m _ hn.1 h2))
    | stuck c1 =>
      rw [hx] at h hn
      obtain ⟨h1, h2⟩ := need1_ok h
      have h3 : TreeOK P X fn Q (.stuck c') := by rw [← hn]; exact h2
      exact hs.2 h1 h3

theorem FnOK.tree {X : Ctx} {f : Nat} {fn : Func} {c : Code} (h : FnOK P X f fn c) {O : OpX} (hO : OpXOK P X.G O) {args r : PV} (u : Bool) (m : Nat) (hle : bleN args.count X.N = true)
    (hr : TreeOK P X fn (Ret r) (explore X O u m ⟨[.code c], Env.enter 0 args, [], 0⟩)) : PFun P X.G f args r := by
  refine ⟨⟨fn, h.func, h.name, by rw [h.body]; rfl⟩, fun M w vs hG hI hv => (calls_of_run h.func h.body h.ntmps (by simpa using hle) (by rw [h.n0]; exact Nat.le_refl _) (explore_ok h.ok hO m _ rfl hr) hG hI (fun _ _ => rfl) hv).mono ?_⟩
  rintro e w' ⟨M', ρ', v, pv, S', a', rfl, h1, h2, h3, h4⟩
  exact ⟨M', ρ', v, S', a', rfl, by rw [h.n0] at h1; exact h1, impP_ok _ _ h4 (strip_rel _ h3 h2)⟩
end Go.Abs
/- GOING ON elsewhere: other names, weaker words, fewer things. -/
set_option linter.unusedVariables false
set_option linter.unusedSimpArgs false
namespace Go.Abs
variable {P : Program}

/-- Other names. -/
def PV.ren (σ : Nat → Nat) : PV → PV
  | .ptr id off => .ptr (σ id) off
  | .ptri id off i => .ptri (σ id) off i
  | .map id => .map (σ id)
  | .slice (some id) esz len f => .slice (some (σ id)) esz len f
  | .func fn a b => .func fn (a.ren σ) (b.ren σ)
  | .iface t x => .iface t (x.ren σ)
  | .agg l => .agg (l.ren σ)
  | .tuple l => .tuple (l.ren σ)
  | .cons x r => .cons (x.ren σ) (r.ren σ)
  | p => p

def pullN (σ : Nat → Nat) (ρ : Names) (n : Nat) : Names := fun id => if id < n then ρ (σ id) else none
theorem pullN_lt {σ : Nat → Nat} {ρ : Names} {n id : Nat} (h : id < n) : pullN σ ρ n id = ρ (σ id) := by simp [pullN, h]

theorem rel_pull {M : Mem} {σ : Nat → Nat} {n : Nat} : ∀ (pv : PV) {ρ : Names} {m : Mode} {vs : List Value}, pv.under n = true → rel M (pv.ren σ) ρ m vs → rel M pv (pullN σ ρ n) m vs := by
  intro pv
  induction pv with
  | ptr id off =>
    intro ρ m vs hb ⟨b, h1, h2⟩
    exact ⟨b, by rw [pullN_lt (blt_lt hb)]; exact h1, h2⟩
  | ptri id off idx =>
    intro ρ m vs hb ⟨b, h1, h2⟩
    exact ⟨b, by rw [pullN_lt (blt_lt hb)]; exact h1, h2⟩
  | map id =>
    intro ρ m vs hb ⟨b, h1, h2⟩
    exact ⟨b, by rw [pullN_lt (blt_lt hb)]; exact h1, h2⟩
  | slice tok esz len f ih =>
    intro ρ m vs hb h
    cases tok with
    | none =>
      obtain ⟨a, n', cap, h1, h2, h3, h4, h5, h6⟩ := h
      exact ⟨a, n', cap, h1, h2, h3, h4, fun id hid => (by cases hid), h6⟩
    | some id =>
      obtain ⟨a, n', cap, h1, h2, h3, h4, h5, h6⟩ := h
      refine ⟨a, n', cap, h1, h2, h3, h4, fun id' hid => ?_, h6⟩
      simp only [Option.some.injEq] at hid
      subst hid
      rw [pullN_lt (blt_lt hb)]; exact h5 _ rfl
  | func fn first captured ih1 ih2 =>
    intro ρ m vs hb ⟨fs, cs, h1, h2, h3⟩
    simp only [PV.under, Bool.and_eq_true] at hb
    exact ⟨fs, cs, h1, ih1 hb.1 h2, ih2 hb.2 h3⟩
  | iface t x ih => intro ρ m vs hb ⟨v, h1, h2⟩; exact ⟨v, h1, ih hb h2⟩
  | agg l ih =>
    intro ρ m vs hb hx
    rcases hx with ⟨h1, h2⟩ | ⟨h1, cs, h2, h3⟩
    · exact .inl ⟨h1, ih hb h2⟩
    · exact .inr ⟨h1, cs, h2, ih hb h3⟩
  | tuple l ih => intro ρ m vs hb ⟨h1, ws, h2, h3⟩; exact ⟨h1, ws, h2, ih hb h3⟩
  | cons x r ih1 ih2 =>
    intro ρ m vs hb hx
    simp only [PV.under, Bool.and_eq_true] at hb
    rcases hx with ⟨h1, c, d, h2, h3, h4⟩ | ⟨h1, v, ws, h2, h3, h4⟩
    · exact .inl ⟨h1, c, d, h2, ih1 hb.1 h3, ih2 hb.2 h4⟩
    · exact .inr ⟨h1, v, ws, h2, ih1 hb.1 h3, ih2 hb.2 h4⟩
  | _ => intro ρ m vs hb h; exact h

/-- What stands in the slots. -/
def impA (σ : Nat → Nat) (A' : Env) : Env → Prop
  | [] => True
  | (t, v) :: r => impP (A'.get t) (v.ren σ) ∧ impA σ A' r
def impO (σ : Nat → Nat) : Option SObj → SObj → Prop
  | some (.var v'), .var v => impP v' (v.ren σ)
  | some (.own e' t'), .own e t => e' = e ∧ t' = t
  | some (.map m'), .map m => m' () = m ()
  | some (.raw o'), .raw o => o' = o
  | _, _ => False
def impS (σ : Nat → Nat) (S' : Store) : Store → Prop
  | [] => True
  | (id, o) :: r => impO σ (S'.get (σ id)) o ∧ impS σ S' r
/-- No two of the objects are one. -/
def injS (σ : Nat → Nat) : Store → Bool
  | [] => true
  | (id, _) :: r => r.all (fun x => beqN x.1 id || !beqN (σ x.1) (σ id)) && injS σ r
/-- The names below stay. -/
def idS (σ : Nat → Nat) : Nat → Bool
  | 0 => true
  | n + 1 => beqN (σ n) n && idS σ n

theorem impA_get {σ : Nat → Nat} {A' : Env} : ∀ {A : Env}, impA σ A' A → ∀ t, A.get t = .undef ∨ impP (A'.get t) ((A.get t).ren σ)
  | [], _, t => .inl rfl
  | (d, v) :: r, h, t => by
    simp only [Env.get]
    cases hb : beqN d t with
    | true =>
      obtain rfl : d = t := by simpa using hb
      exact .inr h.1
    | false => exact impA_get h.2 t
theorem impS_get {σ : Nat → Nat} {S' : Store} : ∀ {S : Store}, impS σ S' S → ∀ id o, S.get id = some o → impO σ (S'.get (σ id)) o
  | [], _, id, o, h => by simp [Store.get] at h
  | (i, x) :: r, h, id, o, hg => by
    rw [Store.get] at hg
    cases hb : beqN i id with
    | true =>
      simp only [hb, cond_true, Option.some.injEq] at hg
      subst hg
      obtain rfl : i = id := by simpa using hb
      exact h.1
    | false =>
      simp only [hb, cond_false] at hg
      exact impS_get h.2 id o hg
theorem get_mem : ∀ {S : Store} {id : Nat} {o : SObj}, S.get id = some o → ∃ o', (id, o') ∈ S
  | [], id, o, h => by simp [Store.get] at h
  | (i, x) :: r, id, o, h => by
    rw [Store.get] at h
    cases hb : beqN i id with
    | true =>
      obtain rfl : i = id := by simpa using hb
      exact ⟨x, by simp⟩
    | false =>
      simp only [hb, cond_false] at h
      obtain ⟨o', h'⟩ := get_mem h
      exact ⟨o', List.mem_cons_of_mem _ h'⟩
theorem injS_ne {σ : Nat → Nat} : ∀ {S : Store}, injS σ S = true → ∀ {a b : Nat × SObj}, a ∈ S → b ∈ S → a.1 ≠ b.1 → σ a.1 ≠ σ b.1
  | [], _, a, b, ha, _, _ => by cases ha
  | (i, x) :: r, h, a, b, ha, hb, hne => by
    simp only [injS, Bool.and_eq_true, List.all_eq_true, Bool.or_eq_true, Bool.not_eq_true'] at h
    rcases List.mem_cons.1 ha with rfl | ha <;> rcases List.mem_cons.1 hb with rfl | hb
    · exact absurd rfl hne
    · rcases h.1 b hb with h1 | h1
      · exact absurd (by simpa using h1 : b.1 = i).symm hne
      · intro e; rw [e] at h1; simp at h1
    · rcases h.1 a ha with h1 | h1
      · exact absurd (by simpa using h1 : a.1 = i) hne
      · intro e; rw [e] at h1; simp at h1
    · exact injS_ne h.2 ha hb hne
theorem idS_eq {σ : Nat → Nat} : ∀ {n : Nat}, idS σ n = true → ∀ id, id < n → σ id = id
  | 0, _, id, h => by omega
  | n + 1, h, id, hid => by
    simp only [idS, Bool.and_eq_true] at h
    by_cases e : id = n
    · subst e; simpa using h.1
    · exact idS_eq h.2 id (by omega)

theorem SObj.ok_imp {M : Mem} {σ : Nat → Nat} {ρ : Names} {w : World} {v : Value} {o' o : SObj} {n : Nat} (h : o'.ok M ρ w v) (hi : impO σ (some o') o) (hb : ∀ pv, o = .var pv → pv.under n = true) : o.ok M (pullN σ ρ n) w v := by
  cases o with
  | var pv =>
    cases o' <;> simp only [impO] at hi
    obtain ⟨b, c, t, h1, h2, h3, h4⟩ := h
    exact ⟨b, c, t, h1, h2, rel_pull _ (hb pv rfl) (impP_ok _ _ hi h3), h4⟩
  | own e t => cases o' <;> simp only [impO] at hi; obtain ⟨rfl, rfl⟩ := hi; exact h
  | map e =>
    cases o' <;> simp only [impO] at hi
    obtain ⟨b, ents, clock, h1, h2, h3⟩ := h
    exact ⟨b, ents, clock, h1, h2, by rw [← hi]; exact h3⟩
  | raw e => cases o' <;> simp only [impO] at hi; subst hi; exact h

/-- Going on elsewhere. -/
theorem run_move {X : Ctx} {fn : Func} {Q : PV → Store → Prop} {k : List It} (σ : Nat → Nat) {A A' : Env} {S S' : Store} {n n' : Nat} (hk : plainK k = true) (h : RunC P X fn Q ⟨k, A, S, n⟩) (hA : belowA n A = true) (hS : belowS n S = true) (h0 : bleN X.n0 n = true)
    (hid : idS σ X.n0 = true) (hinj : injS σ S = true) (hAe : impA σ A' A) (hSe : impS σ S' S) : RunC P X fn Q ⟨k, A', S', n'⟩ := by
  refine (run_plain hk).2 fun M ρ w a b cs hG hI hf hm hR => ?_
  have h0' : X.n0 ≤ n := by simpa using h0
  have hobj : ∀ id o, S.get id = some o → id < n ∧ ∃ o', S'.get (σ id) = some o' ∧ impO σ (some o') o := by
    intro id o ho
    have h1 := impS_get hSe id o ho
    refine ⟨(belowS_get hS id o ho).1, ?_⟩
    cases h2 : S'.get (σ id) with
    | none => rw [h2] at h1; simp [impO] at h1
    | some o' => rw [h2] at h1; exact ⟨o', rfl, h1⟩
  have hIc : Inv M (pullN σ ρ n) S.get w := by
    refine ⟨hI.mem, fun id o ho => ?_, fun id id' o o' ho ho' hne b hb hb' => ?_⟩
    · obtain ⟨h1, o', h2, h3⟩ := hobj id o ho
      obtain ⟨v, hv, hok⟩ := hI.obj _ o' h2
      exact ⟨v, by rw [pullN_lt h1]; exact hv, SObj.ok_imp hok h3 (belowS_get hS id o ho).2⟩
    · obtain ⟨h1, x, h2, _⟩ := hobj id o ho
      obtain ⟨h1', x', h2', _⟩ := hobj id' o' ho'
      simp only [at?, pullN_lt h1] at hb
      simp only [at?, pullN_lt h1'] at hb'
      obtain ⟨y, hy⟩ := get_mem ho
      obtain ⟨y', hy'⟩ := get_mem ho'
      exact hI.apart _ _ x x' h2 h2' (injS_ne hinj hy hy' hne) b hb hb'
  have hRc : RelA M (pullN σ ρ n) X.N A.get a := by
    refine ⟨fun t => ?_, hR.size, hR.defers⟩
    rcases impA_get hAe t with h1 | h1
    · rw [h1]; exact ⟨rfl, _, rfl⟩
    · exact rel_pull _ (belowA_get hA t) (impP_ok _ _ h1 (hR.slot t))
  obtain ⟨todo, a', w', M', ρ', v, S2, u, h1, h2, h3⟩ := (run_plain hk).1 h M (pullN σ ρ n) w a b cs hG hIc (fun id hid => by simp only [pullN]; rw [if_neg (Nat.not_lt.2 hid)]) h0' hRc
  have hocc : ∀ b, occ (pullN σ ρ n) S.get b → occ ρ S'.get b := by
    rintro b ⟨id, o, ho, hb⟩
    obtain ⟨k1, o', k2, _⟩ := hobj id o ho
    exact ⟨σ id, o', k2, by simpa only [at?, pullN_lt k1] using hb⟩
  refine ⟨todo, a', w', M', ρ', v, S2, u, h1, ⟨h2.inv, h2.defers, h2.mem, fun id hid' => ?_, h2.os, h2.tape, h2.output, h2.size, fun b hb ho => h2.heap b hb fun h => ho (hocc b h), fun b hb => ?_, fun b i h h' => ?_⟩, h3⟩
  · rw [h2.names id hid', pullN_lt (by omega), idS_eq hid id hid']
  · exact (h2.blks b hb).imp id (hocc b)
  · exact (h2.mnew b i h h').imp id (hocc b)
end Go.Abs
/- 'append' onto a slice of the call's own. -/
set_option linter.unusedVariables false
set_option linter.unusedSimpArgs false
namespace Go.Abs
variable {P : Program} {G : Nat → PV}

/-- One of two values of one shape. -/
def PV.mrg (c : Unit → Bool) : PV → PV → PV
  | .int k a, .int k' b => bif decide (k = k') then .int k (fun _ => bif c () then a () else b ()) else bif c () then .int k a else .int k' b
  | .str a, .str b => .str fun _ => bif c () then a () else b ()
  | .bool a, .bool b => .bool fun _ => bif c () then a () else b ()
  | .tt, .bool b => .bool fun _ => bif c () then true else b ()
  | .ff, .bool b => .bool fun _ => bif c () then false else b ()
  | .bool a, .tt => .bool fun _ => bif c () then a () else true
  | .bool a, .ff => .bool fun _ => bif c () then a () else false
  | .tt, .tt => .tt
  | .ff, .ff => .ff
  | .tt, .ff => .bool fun _ => c ()
  | .ff, .tt => .bool fun _ => !c ()
  | .agg l, .agg l' => .agg (PV.mrg c l l')
  | .cons x r, .cons x' r' => .cons (PV.mrg c x x') (PV.mrg c r r')
  | .nil, .nil => .nil
  | .nilp, .nilp => .nilp
  | .nils, .nils => .nils
  | .slice none esz len f, .slice none esz' len' f' => bif beqN esz esz' then .slice none esz (fun _ => bif c () then len () else len' ()) (fun j => PV.mrg c (f j) (f' j)) else bif c () then .slice none esz len f else .slice none esz' len' f'
  | p, q => bif c () then p else q

theorem mrg_tt {M : Mem} {c : Unit → Bool} (hc : c () = true) : ∀ (p q : PV) {ρ : Names} {m : Mode} {vs : List Value}, rel M p ρ m vs → rel M (PV.mrg c p q) ρ m vs := by
  intro p
  induction p with
  | int k a =>
    intro q ρ m vs h
    cases q <;> simp only [PV.mrg, hc, cond_true] <;> try exact h
    rename_i k' b
    by_cases e : k = k'
    · simpa [e, rel, hc] using (e ▸ h)
    · simpa [e] using h
  | str a => intro q ρ m vs h; cases q <;> simp only [PV.mrg, hc, cond_true] <;> first | exact h | (simpa [rel, hc] using h)
  | bool a => intro q ρ m vs h; cases q <;> simp only [PV.mrg, hc, cond_true] <;> first | exact h | (simpa [rel, hc] using h)
  | tt => intro q ρ m vs h; cases q <;> simp only [PV.mrg, hc, cond_true] <;> first | exact h | (simpa [rel, hc] using h)
  | ff => intro q ρ m vs h; cases q <;> simp only [PV.mrg, hc, cond_true] <;> first | exact h | (simpa [rel, hc] using h)
  | agg l ih =>
    intro q ρ m vs h
    cases q <;> simp only [PV.mrg, hc, cond_true] <;> try exact h
    rcases h with ⟨h1, h2⟩ | ⟨h1, cs, h2, h3⟩
    · exact .inl ⟨h1, ih _ h2⟩
    · exact .inr ⟨h1, cs, h2, ih _ h3⟩
  | cons x r ih1 ih2 =>
    intro q ρ m vs h
    cases q <;> simp only [PV.mrg, hc, cond_true] <;> try exact h
    rcases h with ⟨h1, a, d, h2, h3, h4⟩ | ⟨h1, v, ws, h2, h3, h4⟩
    · exact .inl ⟨h1, a, d, h2, ih1 _ h3, ih2 _ h4⟩
    · exact .inr ⟨h1, v, ws, h2, ih1 _ h3, ih2 _ h4⟩
  | slice tok esz len f ih =>
    intro q ρ m vs h
    cases tok with
    | some id => cases q <;> simp only [PV.mrg, hc, cond_true] <;> exact h
    | none =>
      cases q with
      | slice tok' esz' len' f' =>
        cases tok' with
        | some id => simp only [PV.mrg, hc, cond_true]; exact h
        | none =>
          simp only [PV.mrg]
          cases hb : beqN esz esz' with
          | false => simp only [hc, cond_true, cond_false]; exact h
          | true =>
            simp only [cond_true]
            obtain ⟨a, n, cap, h1, h2, h3, h4, h5, h6⟩ := h
            refine ⟨a, n, cap, h1, by simp [hc, h2], h3, h4, h5, fun hn => ?_⟩
            obtain ⟨b, base, e, hr⟩ := h6 hn
            exact ⟨b, base, e, fun j hj => let ⟨cs, k1, k2, k3⟩ := hr j hj; ⟨cs, k1, ih _ _ k2, k3⟩⟩
      | _ => simp only [PV.mrg, hc, cond_true]; exact h
  | _ => intro q ρ m vs h; cases q <;> simp only [PV.mrg, hc, cond_true] <;> exact h

theorem mrg_ff {M : Mem} {c : Unit → Bool} (hc : c () = false) : ∀ (p q : PV) {ρ : Names} {m : Mode} {vs : List Value}, rel M q ρ m vs → rel M (PV.mrg c p q) ρ m vs := by
  intro p
  induction p with
  | int k a =>
    intro q ρ m vs h
    cases q <;> simp only [PV.mrg, hc, cond_false] <;> try exact h
    rename_i k' b
    by_cases e : k = k'
    · subst e; simpa [rel, hc] using h
    · simpa [e] using h
  | str a => intro q ρ m vs h; cases q <;> simp only [PV.mrg, hc, cond_false] <;> first | exact h | (simpa [rel, hc] using h)
  | bool a => intro q ρ m vs h; cases q <;> simp only [PV.mrg, hc, cond_false] <;> first | exact h | (simpa [rel, hc] using h)
  | tt => intro q ρ m vs h; cases q <;> simp only [PV.mrg, hc, cond_false] <;> first | exact h | (simpa [rel, hc] using h)
  | ff => intro q ρ m vs h; cases q <;> simp only [PV.mrg, hc, cond_false] <;> first | exact h | (simpa [rel, hc] using h)
  | agg l ih =>
    intro q ρ m vs h
    cases q <;> simp only [PV.mrg, hc, cond_false] <;> try exact h
    rcases h with ⟨h1, h2⟩ | ⟨h1, cs, h2, h3⟩
    · exact .inl ⟨h1, ih _ h2⟩
    · exact .inr ⟨h1, cs, h2, ih _ h3⟩
  | cons x r ih1 ih2 =>
    intro q ρ m vs h
    cases q <;> simp only [PV.mrg, hc, cond_false] <;> try exact h
    rcases h with ⟨h1, a, d, h2, h3, h4⟩ | ⟨h1, v, ws, h2, h3, h4⟩
    · exact .inl ⟨h1, a, d, h2, ih1 _ h3, ih2 _ h4⟩
    · exact .inr ⟨h1, v, ws, h2, ih1 _ h3, ih2 _ h4⟩
  | slice tok esz len f ih =>
    intro q ρ m vs h
    cases tok with
    | some id => cases q <;> simp only [PV.mrg, hc, cond_false] <;> exact h
    | none =>
      cases q with
      | slice tok' esz' len' f' =>
        cases tok' with
        | some id => simp only [PV.mrg, hc, cond_false]; exact h
        | none =>
          simp only [PV.mrg]
          cases hb : beqN esz esz' with
          | false => simp only [hc, cond_false]; exact h
          | true =>
            obtain rfl : esz = esz' := by simpa using hb
            simp only [cond_true]
            obtain ⟨a, n, cap, h1, h2, h3, h4, h5, h6⟩ := h
            refine ⟨a, n, cap, h1, by simp [hc, h2], h3, h4, h5, fun hn => ?_⟩
            obtain ⟨b, base, e, hr⟩ := h6 hn
            exact ⟨b, base, e, fun j hj => let ⟨cs, k1, k2, k3⟩ := hr j hj; ⟨cs, k1, ih _ _ k2, k3⟩⟩
      | _ => simp only [PV.mrg, hc, cond_false]; exact h
  | _ => intro q ρ m vs h; cases q <;> simp only [PV.mrg, hc, cond_false] <;> exact h
end Go.Abs
/- 'append' onto a slice of the call's own (2). -/
set_option linter.unusedVariables false
set_option linter.unusedSimpArgs false
namespace Go.Abs
variable {P : Program} {G : Nat → PV}

theorem rel_ones {M : Mem} : ∀ (pv : PV) {ρ : Names} {cs : List Value}, rel M pv ρ .cells cs → ∀ u ∈ cs, u.oneCell' = true := by
  intro pv
  induction pv with
  | agg l ih =>
    intro ρ cs h u hu
    rcases h with ⟨_, h⟩ | ⟨h, _⟩
    · exact ih h u hu
    · cases h
  | cons x r ih1 ih2 =>
    intro ρ cs h u hu
    rcases h with ⟨_, a, d, rfl, h1, h2⟩ | ⟨h, _⟩
    · rcases List.mem_append.1 hu with hu | hu
      · exact ih1 h1 u hu
      · exact ih2 h2 u hu
    · cases h
  | nil => intro ρ cs ⟨_, h⟩ u hu; subst h; cases hu
  | undef => intro ρ cs ⟨h, _⟩; cases h
  | tuple l _ => intro ρ cs ⟨h, _⟩; cases h
  | arrI k n l =>
    intro ρ cs ⟨_, h⟩ u hu
    rcases h with ⟨_, rfl⟩ | ⟨h, _⟩
    · obtain ⟨i, _, rfl⟩ := List.mem_map.1 hu; rfl
    · cases h
  | arrB n l =>
    intro ρ cs ⟨_, h⟩ u hu
    rcases h with ⟨_, rfl⟩ | ⟨h, _⟩
    · obtain ⟨i, _, rfl⟩ := List.mem_map.1 hu; rfl
    · cases h
  | arrS n l =>
    intro ρ cs ⟨_, h⟩ u hu
    rcases h with ⟨_, rfl⟩ | ⟨h, _⟩
    · obtain ⟨i, _, rfl⟩ := List.mem_map.1 hu; rfl
    · cases h
  | tt => intro ρ cs ⟨_, h⟩ u hu; subst h; simp only [List.mem_singleton] at hu; subst hu; rfl
  | ff => intro ρ cs ⟨_, h⟩ u hu; subst h; simp only [List.mem_singleton] at hu; subst hu; rfl
  | bool b => intro ρ cs ⟨_, h⟩ u hu; subst h; simp only [List.mem_singleton] at hu; subst hu; rfl
  | int k n => intro ρ cs ⟨_, h⟩ u hu; subst h; simp only [List.mem_singleton] at hu; subst hu; rfl
  | str s => intro ρ cs ⟨_, h⟩ u hu; subst h; simp only [List.mem_singleton] at hu; subst hu; rfl
  | nilp => intro ρ cs ⟨_, h⟩ u hu; subst h; simp only [List.mem_singleton] at hu; subst hu; rfl
  | nils => intro ρ cs ⟨_, h⟩ u hu; subst h; simp only [List.mem_singleton] at hu; subst hu; rfl
  | nilm => intro ρ cs ⟨_, h⟩ u hu; subst h; simp only [List.mem_singleton] at hu; subst hu; rfl
  | nilf => intro ρ cs ⟨_, h⟩ u hu; subst h; simp only [List.mem_singleton] at hu; subst hu; rfl
  | nili => intro ρ cs ⟨_, h⟩ u hu; subst h; simp only [List.mem_singleton] at hu; subst hu; rfl
  | ptr id off => intro ρ cs ⟨b, _, _, h⟩ u hu; subst h; simp only [List.mem_singleton] at hu; subst hu; rfl
  | ptri id off i => intro ρ cs ⟨b, _, _, _, h⟩ u hu; subst h; simp only [List.mem_singleton] at hu; subst hu; rfl
  | eptr esz len f i off _ => intro ρ cs ⟨b, _, _, _, _, _, _, _, h⟩ u hu; subst h; simp only [List.mem_singleton] at hu; subst hu; rfl
  | eptri esz len f i off j _ => intro ρ cs ⟨b, _, _, _, _, _, _, _, _, h⟩ u hu; subst h; simp only [List.mem_singleton] at hu; subst hu; rfl
  | slice tok esz len f _ => intro ρ cs ⟨a, n, cap, ⟨_, h⟩, _⟩ u hu; subst h; simp only [List.mem_singleton] at hu; subst hu; rfl
  | map id => intro ρ cs ⟨b, _, _, h⟩ u hu; subst h; simp only [List.mem_singleton] at hu; subst hu; rfl
  | func fn a b _ _ => intro ρ cs ⟨fs, gs, ⟨_, h⟩, _⟩ u hu; subst h; simp only [List.mem_singleton] at hu; subst hu; rfl
  | iface t x _ => intro ρ cs ⟨v, ⟨_, h⟩, _⟩ u hu; subst h; simp only [List.mem_singleton] at hu; subst hu; rfl

/-- The cells of a row. -/
def rowL (M : Mem) (b base k : Nat) : List Value := (List.range k).map fun j => (M b (base + j)).getD Go.undef
theorem rowL_length (M : Mem) (b base k : Nat) : (rowL M b base k).length = k := by simp [rowL]
theorem rowL_get {M : Mem} {b base k j : Nat} (h : j < k) : (rowL M b base k)[j]? = some ((M b (base + j)).getD Go.undef) := by simp [rowL, h]

theorem row_some {M : Mem} {b base esz n : Nat} {f : (Unit → Int) → PV} (h : row M b base esz n f) (i : Nat) (hi : i < n * esz) : ∃ v, M b (base + i) = some v ∧ v.oneCell' = true := by
  have he : 0 < esz := by
    rcases Nat.eq_zero_or_pos esz with e | e
    · subst e; simp at hi
    · exact e
  obtain ⟨cs, h1, h2, h3⟩ := h (i / esz) (Nat.div_lt_of_lt_mul (by rw [Nat.mul_comm]; exact hi))
  have hq := h3 (i % esz) (Nat.mod_lt _ he)
  have e : base + i / esz * esz + i % esz = base + i := by
    have := Nat.div_add_mod i esz
    rw [Nat.mul_comm] at this
    omega
  rw [e] at hq
  have hlt : i % esz < cs.length := by rw [h1]; exact Nat.mod_lt _ he
  rw [List.getElem?_eq_getElem hlt] at hq
  exact ⟨_, hq, rel_ones _ h2 _ (List.getElem_mem _)⟩
theorem row_get {M : Mem} {b base esz n : Nat} {f : (Unit → Int) → PV} (h : row M b base esz n f) {i : Nat} (hi : i < n * esz) : M b (base + i) = (rowL M b base (n * esz))[i]? := by
  obtain ⟨v, hv, _⟩ := row_some h i hi
  rw [rowL_get hi, hv]; rfl
theorem row_ones {M : Mem} {b base esz n : Nat} {f : (Unit → Int) → PV} (h : row M b base esz n f) : ∀ u ∈ rowL M b base (n * esz), u.oneCell' = true := by
  intro u hu
  simp only [rowL, List.mem_map, List.mem_range] at hu
  obtain ⟨j, hj, rfl⟩ := hu
  obtain ⟨v, hv, h1⟩ := row_some h j hj
  rw [hv]; exact h1

/-- Two rows, one behind the other, somewhere. -/
theorem row_append {M M' : Mem} (hM : M.le M') {b base b2 base2 esz n m : Nat} {f f2 f' : (Unit → Int) → PV} (h1 : row M b base esz n f) (h2 : row M b2 base2 esz m f2) {g : Nat}
    (hg : ∀ (i : Nat), i < (n + m) * esz → M' g i = (rowL M b base (n * esz) ++ rowL M b2 base2 (m * esz))[i]?)
    (hf : ∀ (j : Nat) (cs : List Value), j < n → rel M' (f fun _ => (j : Int)) (fun _ => none) .cells cs → rel M' (f' fun _ => (j : Int)) (fun _ => none) .cells cs)
    (hf2 : ∀ (j : Nat) (cs : List Value), j < m → rel M' (f2 fun _ => (j : Int)) (fun _ => none) .cells cs → rel M' (f' fun _ => ((n + j : Nat) : Int)) (fun _ => none) .cells cs) : row M' g 0 esz (n + m) f' := by
  intro j hj
  by_cases hjn : j < n
  · obtain ⟨cs, k1, k2, k3⟩ := h1 j hjn
    refine ⟨cs, k1, hf j cs hjn (rel_mono hM _ (Names.le_refl _) k2), fun q hq => ?_⟩
    have hlt : j * esz + q < n * esz := by
      have : (j + 1) * esz ≤ n * esz := Nat.mul_le_mul_right _ hjn
      rw [Nat.add_mul] at this; omega
    have hlt' : j * esz + q < (n + m) * esz := by rw [Nat.add_mul]; omega
    rw [Nat.zero_add, hg _ hlt', List.getElem?_append_left (by rw [rowL_length]; exact hlt), ← row_get h1 hlt, ← k3 q hq, Nat.add_assoc]
  · obtain ⟨i, rfl⟩ : ∃ i, j = n + i := ⟨j - n, by omega⟩
    obtain ⟨cs, k1, k2, k3⟩ := h2 i (by omega)
    refine ⟨cs, k1, hf2 i cs (by omega) (rel_mono hM _ (Names.le_refl _) k2), fun q hq => ?_⟩
    have hlt : i * esz + q < m * esz := by
      have : (i + 1) * esz ≤ m * esz := Nat.mul_le_mul_right _ (by omega)
      rw [Nat.add_mul] at this; omega
    have hlt' : (n + i) * esz + q < (n + m) * esz := by rw [Nat.add_mul, Nat.add_mul]; omega
    rw [Nat.zero_add, hg _ hlt', List.getElem?_append_right (by rw [rowL_length, Nat.add_mul]; omega), rowL_length]
    rw [show (n + i) * esz + q - n * esz = i * esz + q by rw [Nat.add_mul]; omega, ← row_get h2 hlt, ← k3 q hq, Nat.add_assoc]

/-- Memory with a row more. -/
def withRow (M : Mem) (g : Nat) (cs : List Value) : Mem := fun b i => if b = g then cs[i]? else M b i

/-- What stands behind 'append'. -/
theorem app_done {M : Mem} {ρ : Names} {g : Sto} {w w' : World} {n0 id0 : Nat} {F : List Nat} (hF : F = [] ∨ F = [id0]) (hI : Inv M ρ (only g F) w) (hn : ρ n0 = none) {own0 : Option (Nat × Nat)}
    {esz el n cap g0 : Nat} {c' : Array Value} {tot : List Value} (hne : n0 ∉ F)
    (hos : w'.os = w.os) (htape : w'.tape = w.tape) (hout : w'.output = w.output) (hsize : w.heap.size ≤ w'.heap.size)
    (hcell : w'.heap[g0]? = some (.cells c' el (0, 0))) (hcs : c'.size = cap * esz) (hnc : n ≤ cap) (hcm : cap ≤ maxLen) (htl : tot.length = n * esz) (htot : ∀ (i : Nat) (v : Value), tot[i]? = some v → c'[i]? = some v)
    (hg0 : w.heap.size ≤ g0 ∨ occ ρ (only g F) g0) (hold : ∀ b, b < w.heap.size → b ≠ g0 → w'.heap[b]? = w.heap[b]?) (hM : ∀ i v, M g0 i = some v → tot[i]? = some v) :
    Adv M ρ (only g F) w n0 (n0 + 1) (withRow M g0 tot) (bind1 ρ n0 (.slice (some ⟨g0, 0, none⟩) n cap)) (updW (only g F) ((F.map fun i => (i, none)) ++ [(n0, some (.own esz el))])) w' ∧
    Inv (withRow M g0 tot) (bind1 ρ n0 (.slice (some ⟨g0, 0, none⟩) n cap)) (updW (only g F) ((F.map fun i => (i, none)) ++ [(n0, some (.own esz el))])) w' := by
  have hle : M.le (withRow M g0 tot) := by
    intro b i v hv
    unfold withRow
    split
    · rename_i e; subst e; exact hM i v hv
    · exact hv
  have hρ := le_bind1 hn (.slice (some ⟨g0, 0, none⟩) n cap)
  have hg : ∀ id o, updW (only g F) ((F.map fun i => (i, none)) ++ [(n0, some (.own esz el))]) id = some o → id = n0 ∧ o = .own esz el := by
    intro id o ho
    rcases hF with rfl | rfl
    · simp only [List.map_nil, List.nil_append, updW] at ho
      split at ho
      · exact ⟨‹_›, by simpa using ho.symm⟩
      · simp [only] at ho
    · simp only [List.map_cons, List.map_nil, List.cons_append, List.nil_append, updW] at ho
      split at ho
      · exact ⟨‹_›, by simpa using ho.symm⟩
      · split at ho
        · cases ho
        · simp [only, *] at ho
  have hat : at? (bind1 ρ n0 (.slice (some ⟨g0, 0, none⟩) n cap)) n0 = some g0 := by simp [at?, bind1, nblk]
  have hself : updW (only g F) ((F.map fun i => (i, none)) ++ [(n0, some (.own esz el))]) n0 = some (.own esz el) := by
    rcases hF with rfl | rfl <;> simp [updW]
  refine ⟨⟨hle, hρ, fun id h0 h1 => ?_, hos, htape, hout, hsize, fun b hb ho => ?_, fun b ⟨id, o, ho, hb⟩ => ?_, fun b i h1 h0 => ?_⟩, ⟨fun b i v hm => ?_, fun id o ho => ?_, fun id id' o o' ho ho' hne' => ?_⟩⟩
  · unfold bind1 at h1
    split at h1
    · omega
    · exact absurd h0 h1
  · refine hold b hb fun e => ?_
    subst e
    rcases hg0 with h | h
    · omega
    · exact ho h
  · obtain ⟨rfl, rfl⟩ := hg id o ho
    rw [hat] at hb
    simp only [Option.some.injEq] at hb
    subst hb
    exact hg0
  · unfold withRow at h1
    split at h1
    · rename_i e; subst e; exact hg0
    · exact absurd h0 h1
  · unfold withRow at hm
    split at hm
    · rename_i e; subst e
      rw [cells_of_block hcell]
      exact htot i v hm
    · rename_i e
      rw [cell_of_heap (hold b (hI.mem_lt hm) e)]
      exact hI.mem b i v hm
  · obtain ⟨rfl, rfl⟩ := hg id o ho
    refine ⟨_, by simp [bind1], .inr ⟨g0, n, cap, c', rfl, hnc, hcm, hcell, hcs, fun i hi => ?_⟩⟩
    unfold withRow at hi
    rw [if_pos rfl] at hi
    by_cases h : i < n * esz
    · exact h
    · exact absurd (List.getElem?_eq_none (by omega)) hi
  · exact absurd ((hg id o ho).1.trans (hg id' o' ho').1.symm) hne'
end Go.Abs
/- 'append' onto a slice of the call's own (3): the operation. -/
set_option linter.unusedVariables false
set_option linter.unusedSimpArgs false
namespace Go.Abs
variable {P : Program} {G : Nat → PV}

def appE (T : Nat → Option TI) : OpX := fun e g n op => match op with
  | .call c => match c.callee, c.args.toList, c.argTypes.toList with
    | .builtin .append, [s, x], [t, t'] => bif beqN t t' then (match T t with
      | some ⟨.slice el, _, _, _⟩ => match T el with
        | some i => match e x with
          | .slice _ esz2 len2 f2 => bif beqN esz2 i.size && bltN 0 i.size && bltN 0 i.bytes then (match e s with
            | .nils => some { v := .slice (some n) i.size len2 f2, W := [(n, some (.own i.size el))], n := n + 1, C := [fun _ => 0 < len2 () ∧ len2 () * i.bytes ≤ 140737488355328] }
            | .slice (some id) esz len f => bif beqN esz i.size then (match g id with
              | some (.own esz' el') => bif beqN esz' esz && beqN el' el && bltN id n then
                some { v := .slice (some n) esz (fun _ => len () + len2 ()) (fun j => PV.mrg (fun _ => decide (j () < len ())) (f j) (f2 fun _ => j () - len ())), F := [id], W := [(id, none), (n, some (.own esz el))], n := n + 1,
                       C := [fun _ => 0 < len2 () ∧ (len () + len2 ()) * i.bytes ≤ 140737488355328] } else none
              | _ => none) else none
            | _ => none) else none
          | _ => none
        | none => none
      | _ => none) else none
    | _, _, _ => none
  | _ => none

theorem exec_append {ev : Operand → Value} {o : Oper} {c : Call} {s x : Operand} {t : TypeId} {w w' : World} {v : Value} (ho : o.op = .call c) (h1 : c.callee = .builtin .append) (h2 : c.args = #[s, x]) (h3 : c.argTypes = #[t, t])
    (hr : (Builtin.append_ #[t, t] o.type #[ev s, ev x]).run P w = .ok v w') : (execOp ev o).run P w = .ok (.value v) w' := by
  unfold execOp
  simp only [ho, resolve, h1, h2, h3, invoke, builtin, Sem.run_bind, Sem.run_pure, Result.andThen_ok, List.map_toArray, List.map_cons, List.map_nil, hr]

theorem rel_in_row {M : Mem} {f : (Unit → Int) → PV} {i i' : Unit → Int} {cs : List Value} (h : i () = i' ()) (hr : rel M (f i) (fun _ => none) .cells cs) : rel M (f i') (fun _ => none) .cells cs := by
  have : i = i' := funext fun u => h
  rwa [this] at hr

/-- Onto nothing. -/
theorem app_nil {t el : TypeId} {i : TI} (ht : P.underlying t = some (.slice el)) (hi : TOK P el i) {M : Mem} {ρ : Names} {g : Sto} {w : World} {n id0 : Nat} {F : List Nat} (hF : F = [] ∨ F = [id0]) (hI : Inv M ρ (only g F) w) (hn : ρ n = none) (hne : n ∉ F)
    (h0 : 0 < i.size) (ty : TypeId) {m cap2 : Nat} {b2 base2 : Nat} {f2 : (Unit → Int) → PV} (hrow : row M b2 base2 i.size m f2) (hm : 0 < m) (hb : m * i.bytes ≤ 140737488355328) (hby : 0 < i.bytes) :
    ∃ v w' M' ρ', (Builtin.append_ #[t, t] ty #[.slice none 0 0, .slice (some ⟨b2, base2, none⟩) m cap2]).run P w = .ok v w' ∧
      Adv M ρ (only g F) w n (n + 1) M' ρ' (updW (only g F) ((F.map fun i => (i, none)) ++ [(n, some (.own i.size el))])) w' ∧ Inv M' ρ' (updW (only g F) ((F.map fun i => (i, none)) ++ [(n, some (.own i.size el))])) w' ∧
      ∀ (len : Unit → Int) (f' : (Unit → Int) → PV), len () = m → (∀ (j : Nat) (cs : List Value), j < m → rel M' (f2 fun _ => (j : Int)) (fun _ => none) .cells cs → rel M' (f' fun _ => (j : Int)) (fun _ => none) .cells cs) →
        rel M' (.slice (some n) i.size len f') ρ' .val [v] := by
  obtain ⟨inf, z, k1, k2, k3, k4, k5⟩ := hi.info
  have hml : m ≤ 140737488355328 := Nat.le_trans (Nat.le_mul_of_pos_right m hby) hb
  have hmx : m ≤ maxLen := by simp only [maxLen]; omega
  have hz : z.cells.size = i.size := by
    have hx := rel_cells hi.wide k5
    have := rel_size _ hx
    rw [hi.size, ← this]; simp
  have hcells : ∀ j u, (rowL M b2 base2 (m * i.size))[j]? = some u → w.cell? ((⟨b2, base2, none⟩ : Addr).add j) = some u := by
    intro j u hu
    have hlt : j < m * i.size := by
      have := (List.getElem?_eq_some_iff.1 hu).1
      rwa [rowL_length] at this
    obtain ⟨v, hv, _⟩ := row_some hrow j hlt
    rw [← row_get hrow hlt, hv] at hu
    simp only [Option.some.injEq] at hu
    subst hu
    rw [Addr.add_lit]
    exact hI.mem _ _ _ hv
  have hrun := run_append_nil (P := P) w t ty el inf z ht k1 k4 ⟨b2, base2, none⟩ m cap2 (rowL M b2 base2 (m * i.size)) (by rw [rowL_length, k2]) hcells hm (by omega) (by rw [k3]; omega)
  have hge := grownCap_ge w m 0 el
  have hcm := grownCap_le_maxLen w m 0 el hmx
  obtain ⟨r1, r2⟩ := app_done (w' := w.drew.alloc (.cells ((rowL M b2 base2 (m * i.size)).toArray ++ Builtin.zeroCells z.cells (grownCap w m 0 el - m)) el)) hF hI hn (own0 := none) (esz := i.size) (el := el) (n := m) (cap := grownCap w m 0 el) (g0 := w.heap.size) (tot := rowL M b2 base2 (m * i.size)) hne rfl rfl rfl (by simp) (heap_alloc_new w.drew _)
    (by simp only [Array.size_append, List.size_toArray, size_zeroCells, hz, rowL_length, ← Nat.add_mul]; congr 1; omega) hge hcm (rowL_length ..)
    (fun j u hu => by
      have hlt := (List.getElem?_eq_some_iff.1 hu).1
      rw [Array.getElem?_append_left (by simpa using hlt)]; simpa using hu)
    (.inl (Nat.le_refl _)) (fun b hb _ => heap_alloc_old w.drew _ b hb) (fun j v hv => by rw [hI.mem_new] at hv; cases hv)
  refine ⟨_, _, _, _, hrun, r1, r2, fun len f' hl hf => ⟨_, m, _, ⟨by simp, rfl⟩, by omega, hge, hcm, fun id hid => ?_, fun _ => ⟨w.heap.size, 0, rfl, ?_⟩⟩⟩
  · simp only [Option.some.injEq] at hid; subst hid; simp [bind1]
  · have hr0 : row M b2 base2 i.size 0 f2 := fun j hj => by omega
    have := row_append r1.mem hr0 hrow (g := w.heap.size) (f' := f') (fun j hj => by
      simp only [withRow, if_pos]
      simp [rowL]) (fun j cs hj => by omega) (fun j cs hj h => by simpa using hf j cs hj h)
    rw [Nat.zero_add] at this
    exact this

/-- Onto a row of the call's own. -/
theorem app_own {t el : TypeId} {i : TI} (ht : P.underlying t = some (.slice el)) (hi : TOK P el i) {M : Mem} {ρ : Names} {g : Sto} {w : World} {n id : Nat} (hI : Inv M ρ (only g [id]) w) (hn : ρ n = none) (hne : n ∉ [id])
    (h0 : 0 < i.size) (ty : TypeId) (hg : g id = some (.own i.size el)) {b k cap : Nat} (hid : ρ id = some (.slice (some ⟨b, 0, none⟩) k cap)) {f : (Unit → Int) → PV} (hrow1 : row M b 0 i.size k f)
    {m cap2 : Nat} {b2 base2 : Nat} {f2 : (Unit → Int) → PV} (hrow : row M b2 base2 i.size m f2) (hm : 0 < m) (hb : (k + m) * i.bytes ≤ 140737488355328) (hby : 0 < i.bytes) :
    ∃ v w' M' ρ', (Builtin.append_ #[t, t] ty #[.slice (some ⟨b, 0, none⟩) k cap, .slice (some ⟨b2, base2, none⟩) m cap2]).run P w = .ok v w' ∧
      Adv M ρ (only g [id]) w n (n + 1) M' ρ' (updW (only g [id]) [(id, none), (n, some (.own i.size el))]) w' ∧ Inv M' ρ' (updW (only g [id]) [(id, none), (n, some (.own i.size el))]) w' ∧
      ∀ (len : Unit → Int) (f' : (Unit → Int) → PV), len () = (k + m : Nat) → (∀ (j : Nat) (cs : List Value), j < k → rel M' (f fun _ => (j : Int)) (fun _ => none) .cells cs → rel M' (f' fun _ => (j : Int)) (fun _ => none) .cells cs) →
        (∀ (j : Nat) (cs : List Value), j < m → rel M' (f2 fun _ => (j : Int)) (fun _ => none) .cells cs → rel M' (f' fun _ => ((k + j : Nat) : Int)) (fun _ => none) .cells cs) →
        rel M' (.slice (some n) i.size len f') ρ' .val [v] := by
  obtain ⟨inf, z, k1, k2, k3, k4, k5⟩ := hi.info
  have hml : k + m ≤ 140737488355328 := Nat.le_trans (Nat.le_mul_of_pos_right _ hby) hb
  have hmx : k + m ≤ maxLen := by simp only [maxLen]; omega
  have hz : z.cells.size = i.size := by
    have hx := rel_cells hi.wide k5
    have := rel_size _ hx
    rw [hi.size, ← this]; simp
  have hcells : ∀ {b base n : Nat} {f : (Unit → Int) → PV}, row M b base i.size n f → ∀ (j : Nat) u, (rowL M b base (n * i.size))[j]? = some u → w.cell? ((⟨b, base, none⟩ : Addr).add j) = some u := by
    intro b base n f hrow j u hu
    have hlt : j < n * i.size := by
      have := (List.getElem?_eq_some_iff.1 hu).1
      rwa [rowL_length] at this
    obtain ⟨v, hv, _⟩ := row_some hrow j hlt
    rw [← row_get hrow hlt, hv] at hu
    simp only [Option.some.injEq] at hu
    subst hu
    rw [Addr.add_lit]
    exact hI.mem _ _ _ hv
  obtain ⟨v0, hv0, hok⟩ := hI.obj id (.own i.size el) (by simp [only, hg])
  rw [hid] at hv0
  simp only [Option.some.injEq] at hv0
  subst hv0
  rcases hok with h | ⟨b', k', cap', c, e, hkc, hcm, hheap, hcs, hMb⟩
  · simp at h
  simp only [Value.slice.injEq, Option.some.injEq, Addr.mk.injEq, and_true] at e
  obtain ⟨rfl, rfl, rfl⟩ := e
  have htl : (rowL M b 0 (k * i.size) ++ rowL M b2 base2 (m * i.size)).length = (k + m) * i.size := by rw [List.length_append, rowL_length, rowL_length, Nat.add_mul]
  have hMtot : ∀ (j : Nat) (v : Value), M b j = some v → (rowL M b 0 (k * i.size) ++ rowL M b2 base2 (m * i.size))[j]? = some v := by
    intro j v hv
    have hj : j < k * i.size := hMb j (by rw [hv]; simp)
    rw [List.getElem?_append_left (by rw [rowL_length]; exact hj), ← row_get hrow1 hj, Nat.zero_add]; exact hv
  have hocc : occ ρ (only g [id]) b := ⟨id, _, by simp [only, hg]; rfl, by simp [at?, hid, nblk]⟩
  have hend : ∀ {M' : Mem} {ρ' : Names} {g0 cap0 : Nat} {v : Value}, M' = withRow M g0 (rowL M b 0 (k * i.size) ++ rowL M b2 base2 (m * i.size)) → v = .slice (some ⟨g0, 0, none⟩) (k + m) cap0 → ρ' n = some v → k + m ≤ cap0 → cap0 ≤ maxLen → M.le M' →
      ∀ (len : Unit → Int) (f' : (Unit → Int) → PV), len () = (k + m : Nat) → (∀ (j : Nat) (cs : List Value), j < k → rel M' (f fun _ => (j : Int)) (fun _ => none) .cells cs → rel M' (f' fun _ => (j : Int)) (fun _ => none) .cells cs) →
        (∀ (j : Nat) (cs : List Value), j < m → rel M' (f2 fun _ => (j : Int)) (fun _ => none) .cells cs → rel M' (f' fun _ => ((k + j : Nat) : Int)) (fun _ => none) .cells cs) →
        rel M' (.slice (some n) i.size len f') ρ' .val [v] := by
    rintro M' ρ' g0 cap0 v rfl rfl hρ h1 h2 hle len f' hl hf hf2
    refine ⟨_, k + m, cap0, ⟨by simp, rfl⟩, by omega, h1, h2, fun id' hid' => ?_, fun _ => ⟨g0, 0, rfl, ?_⟩⟩
    · simp only [Option.some.injEq] at hid'; subst hid'; exact hρ
    · exact row_append hle hrow1 hrow (fun j hj => by simp only [withRow, if_pos]) hf hf2
  by_cases hroom : k + m ≤ cap
  · have hfit : k * i.size + (rowL M b2 base2 (m * i.size)).length ≤ c.size := by rw [rowL_length, hcs, ← Nat.add_mul]; exact Nat.mul_le_mul_right _ hroom
    have hrun := run_append_room (P := P) w t ty el inf ht k1 b k cap c hheap ⟨b2, base2, none⟩ m cap2 (rowL M b2 base2 (m * i.size)) (by rw [rowL_length, k2]) (hcells hrow) (row_ones hrow) hroom (by rw [k2]; exact hfit)
    rw [k2] at hrun
    have htake : c.toList.take (k * i.size) = rowL M b 0 (k * i.size) := by
      apply List.ext_getElem?
      intro j
      by_cases hj : j < k * i.size
      · rw [List.getElem?_take_of_lt hj, ← row_get hrow1 hj, Nat.zero_add]
        obtain ⟨v, hv, _⟩ := row_some hrow1 j hj
        rw [Nat.zero_add] at hv
        have := hI.mem b j v hv
        rw [cells_of_block hheap] at this
        rw [hv, ← this]; simp
      · rw [List.getElem?_eq_none (by rw [List.length_take]; omega), List.getElem?_eq_none (by rw [rowL_length]; omega)]
    obtain ⟨r1, r2⟩ := app_done (n0 := n) (w' := w.setRow b (c.toList.take (k * i.size) ++ rowL M b2 base2 (m * i.size) ++ c.toList.drop (k * i.size + (rowL M b2 base2 (m * i.size)).length)).toArray) (.inr rfl) hI hn (own0 := none) (esz := i.size) (el := el) (n := k + m) (cap := cap) (g0 := b)
      (tot := rowL M b 0 (k * i.size) ++ rowL M b2 base2 (m * i.size)) hne rfl rfl rfl (by simp) (setRow_heap w b c _ el _ hheap)
      (by
        simp only [List.size_toArray, List.length_append, List.length_take, List.length_drop, Array.length_toList, rowL_length] at hfit ⊢
        have : k * i.size ≤ c.size := by omega
        omega) hroom hcm htl
      (fun j u hu => by
        have hlt := (List.getElem?_eq_some_iff.1 hu).1
        rw [htake]
        simp only [List.getElem?_toArray]
        rw [List.getElem?_append_left hlt]; exact hu)
      (.inr hocc) (fun b' _ hb' => setRow_other w b b' _ hb') hMtot
    exact ⟨_, _, _, _, hrun, r1, r2, hend rfl rfl (by simp [bind1]) hroom hcm r1.mem⟩
  · have hrun := run_append_grow (P := P) w t ty el inf z ht k1 k4 ⟨b, 0, none⟩ k cap (rowL M b 0 (k * i.size)) (by rw [rowL_length, k2]) (hcells hrow1) ⟨b2, base2, none⟩ m cap2 (rowL M b2 base2 (m * i.size)) (by rw [rowL_length, k2]) (hcells hrow)
      (by omega) (by omega) (by rw [k3]; exact growslice_fits (by omega) hb)
    have hge := grownCap_ge w (k + m) cap el
    have hcm' := grownCap_le_maxLen w (k + m) cap el hmx
    obtain ⟨r1, r2⟩ := app_done (n0 := n) (w' := w.drew.alloc (.cells ((rowL M b 0 (k * i.size)).toArray ++ (rowL M b2 base2 (m * i.size)).toArray ++ Builtin.zeroCells z.cells (grownCap w (k + m) cap el - (k + m))) el)) (.inr rfl) hI hn (own0 := none) (esz := i.size) (el := el) (n := k + m) (cap := grownCap w (k + m) cap el) (g0 := w.heap.size)
      (tot := rowL M b 0 (k * i.size) ++ rowL M b2 base2 (m * i.size)) hne rfl rfl rfl (by simp) (heap_alloc_new w.drew _)
      (by simp only [Array.size_append, List.size_toArray, size_zeroCells, hz, rowL_length, ← Nat.add_mul]; congr 1; omega) hge hcm' htl
      (fun j u hu => by
        have hlt := (List.getElem?_eq_some_iff.1 hu).1
        rw [List.length_append] at hlt
        have e : (rowL M b 0 (k * i.size)).toArray ++ (rowL M b2 base2 (m * i.size)).toArray = (rowL M b 0 (k * i.size) ++ rowL M b2 base2 (m * i.size)).toArray := by simp
        rw [Array.getElem?_append_left (by simpa using hlt), e]
        simpa using hu)
      (.inl (Nat.le_refl _)) (fun b' hb' _ => heap_alloc_old w.drew _ b' hb') (fun j v hv => by rw [hI.mem_new] at hv; cases hv)
    exact ⟨_, _, _, _, hrun, r1, r2, hend rfl rfl (by simp [bind1]) hge hcm' r1.mem⟩

theorem appE_ok {T : Nat → Option TI} (hT : TT P T) : OpXOK P G (appE T) := by
  intro e g n op E h
  unfold appE at h
  split at h
  · rename_i c
    split at h
    · rename_i s x t t' hcal hargs hty
      cases htt : beqN t t' with
      | false => simp [htt] at h
      | true =>
        obtain rfl : t = t' := by simpa using htt
        simp only [htt, cond_true] at h
        have ha : c.args = #[s, x] := by rw [← hargs]
        have hb : c.argTypes = #[t, t] := by rw [← hty]
        have hops : (Op.call c).operands.toList = [s, x] := by simp [Op.operands, Call.operands, hcal, ha]
        split at h
        · rename_i el sz by' zr hTt
          have ht : P.underlying t = some (.slice el) := (hT t _ hTt).desc
          split at h
          · rename_i i hTe
            have hi := hT el i hTe
            split at h
            · rename_i tok2 esz2 len2 f2 hx
              cases hc : (beqN esz2 i.size && bltN 0 i.size && bltN 0 i.bytes) with
              | false => simp [hc] at h
              | true =>
                simp only [hc, cond_true] at h
                simp only [Bool.and_eq_true] at hc
                obtain ⟨⟨hc1, hc2⟩, hc3⟩ := hc
                have hc2 := blt_lt hc2
                have hc3 := blt_lt hc3
                obtain rfl : esz2 = i.size := by simpa using hc1
                split at h
                · rename_i hs
                  simp only [Option.some.injEq] at h
                  subst h
                  refine ⟨by simp, fun y hy => .inr (by simp at hy; subst hy; simp), fun o M ρ w ev ho hev hI hfree hr hC hG => ?_⟩
                  rw [hops] at hr
                  have hrs := hr s (by simp)
                  have hrx := hr x (by simp)
                  rw [hs] at hrs
                  rw [hx] at hrx
                  have hes : ev s = .slice none 0 0 := by simpa [rel, one] using hrs
                  obtain ⟨a2, m, cap2, ⟨_, hex⟩, hm, _, _, _, hrow⟩ := hrx
                  have hex : ev x = .slice a2 m cap2 := by simpa using hex
                  have hcond := hC (fun _ => 0 < len2 () ∧ len2 () * i.bytes ≤ 140737488355328) (by simp)
                  obtain ⟨q1, q2⟩ := hcond
                  have hm0 : 0 < m := by omega
                  obtain ⟨b2, base2, rfl, hrow2⟩ := hrow hm0
                  have q3 : m * i.bytes ≤ 140737488355328 := by
                    have : ((m * i.bytes : Nat) : Int) ≤ 140737488355328 := by rw [Int.natCast_mul, hm]; exact q2
                    omega
                  obtain ⟨v, w', M', ρ', r1, r2, r3, r4⟩ := app_nil (g := g) (F := []) (id0 := 0) ht hi (.inl rfl) hI (hfree n (Nat.le_refl _) (Nat.lt_succ_self _)) (by simp) hc2 o.type hrow2 hm0 q3 hc3
                  unfold OpR
                  rw [exec_append ho hcal ha hb (by rw [hes, hex]; exact r1)]
                  exact ⟨M', ρ', r2, r3, r4 len2 f2 hm.symm fun j cs hj h => h⟩
                · rename_i id esz len f hs
                  cases hq : beqN esz i.size with
                  | false => simp [hq] at h
                  | true =>
                    obtain rfl : esz = i.size := by simpa using hq
                    simp only [hq, cond_true] at h
                    split at h
                    · rename_i esz' el' hgid
                      cases hz : (beqN esz' i.size && beqN el' el && bltN id n) with
                      | false => simp [hz] at h
                      | true =>
                        simp only [hz, cond_true, Option.some.injEq] at h
                        subst h
                        simp only [Bool.and_eq_true] at hz
                        obtain ⟨⟨hz1, hz2⟩, hz3⟩ := hz
                        obtain rfl : esz' = i.size := by simpa using hz1
                        obtain rfl : el' = el := by simpa using hz2
                        have hz3 := blt_lt hz3
                        refine ⟨by simp, fun y hy => (by simp at hy; rcases hy with rfl | rfl <;> simp), fun o M ρ w ev ho hev hI hfree hr hC hG => ?_⟩
                        rw [hops] at hr
                        have hrs := hr s (by simp)
                        have hrx := hr x (by simp)
                        rw [hs] at hrs
                        rw [hx] at hrx
                        obtain ⟨a1, k, cap1, ⟨_, hes⟩, hk, _, _, htok, hrow1⟩ := hrs
                        have hes : ev s = .slice a1 k cap1 := by simpa using hes
                        have hid := htok id rfl
                        obtain ⟨a2, m, cap2, ⟨_, hex⟩, hm, _, _, _, hrow⟩ := hrx
                        have hex : ev x = .slice a2 m cap2 := by simpa using hex
                        obtain ⟨q1, q2⟩ := hC (fun _ => 0 < len2 () ∧ (len () + len2 ()) * i.bytes ≤ 140737488355328) (by simp)
                        have hm0 : 0 < m := by omega
                        obtain ⟨b2, base2, rfl, hrow2⟩ := hrow hm0
                        have q3 : (k + m) * i.bytes ≤ 140737488355328 := by
                          have : (((k + m) * i.bytes : Nat) : Int) ≤ 140737488355328 := by rw [Int.natCast_mul, Int.natCast_add, hm, hk]; exact q2
                          omega
                        have hn := hfree n (Nat.le_refl _) (Nat.lt_succ_self _)
                        have hmrg1 : ∀ {M' : Mem} (j : Nat) (cs : List Value), j < k → rel M' (f fun _ => (j : Int)) (fun _ => none) .cells cs → rel M' (PV.mrg (fun _ => decide ((j : Int) < len ())) (f fun _ => (j : Int)) (f2 fun _ => (j : Int) - len ())) (fun _ => none) .cells cs := by
                          intro M' j cs hj h
                          exact mrg_tt (by simp only [decide_eq_true_eq]; omega) _ _ h
                        have hmrg2 : ∀ {M' : Mem} (j : Nat) (cs : List Value), j < m → rel M' (f2 fun _ => (j : Int)) (fun _ => none) .cells cs → rel M' (PV.mrg (fun _ => decide (((k + j : Nat) : Int) < len ())) (f fun _ => ((k + j : Nat) : Int)) (f2 fun _ => ((k + j : Nat) : Int) - len ())) (fun _ => none) .cells cs := by
                          intro M' j cs hj h
                          refine mrg_ff (by simp only [decide_eq_false_iff_not]; omega) _ _ ?_
                          exact rel_in_row (by show (j : Int) = ((k + j : Nat) : Int) - len (); omega) h
                        obtain ⟨v0, hv0, hok⟩ := hI.obj id (.own i.size el') (by simp [only, hgid])
                        rw [hid] at hv0
                        simp only [Option.some.injEq] at hv0
                        subst hv0
                        rcases hok with hnil | ⟨b, k', cap', c', e', _⟩
                        · simp only [Value.slice.injEq] at hnil
                          obtain ⟨rfl, rfl, rfl⟩ := hnil
                          obtain ⟨v, w', M', ρ', r1, r2, r3, r4⟩ := app_nil (g := g) (F := [id]) (id0 := id) ht hi (.inr rfl) hI hn (by simp; omega) hc2 o.type hrow2 hm0 (by simpa using q3) hc3
                          unfold OpR
                          rw [exec_append ho hcal ha hb (by rw [hes, hex]; exact r1)]
                          refine ⟨M', ρ', r2, r3, r4 _ _ (by show len () + len2 () = _; omega) fun j cs hj h => ?_⟩
                          have := hmrg2 j cs hj h
                          simpa using this
                        · simp only [Value.slice.injEq] at e'
                          obtain ⟨rfl, rfl, rfl⟩ := e'
                          have hrow1' : row M b 0 i.size k f := by
                            by_cases hk0 : 0 < k
                            · obtain ⟨b', base', e1, h1⟩ := hrow1 hk0
                              simp only [Option.some.injEq, Addr.mk.injEq, and_true] at e1
                              obtain ⟨rfl, rfl⟩ := e1
                              exact h1
                            · exact fun j hj => by omega
                          obtain ⟨v, w', M', ρ', r1, r2, r3, r4⟩ := app_own (g := g) ht hi hI hn (by simp; omega) hc2 o.type hgid hid hrow1' hrow2 hm0 q3 hc3
                          unfold OpR
                          rw [exec_append ho hcal ha hb (by rw [hes, hex]; exact r1)]
                          exact ⟨M', ρ', r2, r3, r4 _ _ (by show len () + len2 () = _; omega) hmrg1 hmrg2⟩
                    · cases h
                · cases h
            · cases h
          · cases h
        · cases h
    · cases h
  · cases h
end Go.Abs
/- GHOST STEPS: a nil slice that is to grow; an object that turns no more. And calls of a table's functions. -/
set_option linter.unusedVariables false
set_option linter.unusedSimpArgs false
namespace Go.Abs
variable {P : Program} {G : Nat → PV}

/-! ### Calls -/
abbrev Table := Nat → PV → Option (PV × List (Unit → Prop))
def TableOK (P : Program) (G : Nat → PV) (F : Table) : Prop := ∀ f args r C, F f args = some (r, C) → (∀ c ∈ C, c ()) → PFun P G f args r

def callX (F : Table) : OpX := fun e g n op => match op with
  | .call c => match c.callee with
    | .value fv => match e fv with
      | .func (.func f) first cap => bif ((first.app (argsE e c.args.toList)).app cap).pure then (match F f ((first.app (argsE e c.args.toList)).app cap).strip with
        | some (r, C) => some { v := r, n, C }
        | none => none) else none
      | _ => none
    | _ => none
  | _ => none
theorem callX_ok {F : Table} (hF : TableOK P G F) : OpXOK P G (callX F) := by
  intro e g n op E h
  unfold callX at h
  split at h
  · rename_i c
    split at h
    · rename_i fv hcal
      split at h
      · rename_i f first cap hfv
        cases hp : ((first.app (argsE e c.args.toList)).app cap).pure with
        | false => simp [hp] at h
        | true =>
          simp only [hp, cond_true] at h
          split at h
          · rename_i r C hq
            simp only [Option.some.injEq] at h
            subst h
            exact call_ok hcal hfv hp (hF _ _ _ _ hq)
          · cases h
      · cases h
    · cases h
  · cases h

/-- A table with one function more. -/
def addF (f : Nat) (spec : PV → Option (PV × List (Unit → Prop))) (F : Table) : Table := fun g args => bif beqN g f then spec args else F g args
theorem addF_ok {f : Nat} {spec : PV → Option (PV × List (Unit → Prop))} {F : Table} (h : ∀ args r C, spec args = some (r, C) → (∀ c ∈ C, c ()) → PFun P G f args r) (hF : TableOK P G F) : TableOK P G (addF f spec F) := by
  intro g args r C hq hC
  unfold addF at hq
  cases hb : beqN g f with
  | true =>
    obtain rfl : g = f := by simpa using hb
    rw [hb] at hq
    exact h _ _ _ hq hC
  | false =>
    rw [hb] at hq
    exact hF _ _ _ _ hq hC

def orX (O O' : OpX) : OpX := fun e g n op => match O e g n op with
  | some E => some E
  | none => O' e g n op
theorem orX_ok {O O' : OpX} (h : OpXOK P G O) (h' : OpXOK P G O') : OpXOK P G (orX O O') := by
  intro e g n op E hE
  unfold orX at hE
  split at hE
  · rename_i E1 h1
    simp only [Option.some.injEq] at hE
    subst hE
    exact h _ _ _ _ _ h1
  · exact h' _ _ _ _ _ hE

/-! ### A nil slice that is to grow -/
section
variable {X : Ctx} {fn : Func} {Q : PV → Store → Prop} {k : List It} {A : Env} {S : Store} {n : Nat}

theorem inv_nil {M : Mem} {ρ : Names} {w : World} (hI : Inv M ρ S.get w) (hn : ρ n = none) (hS : S.get n = none) (esz el : Nat) (S2 : Store) (hS2 : ∀ id o, S2.get id = some o → (id = n ∧ o = .own esz el) ∨ (id ≠ n ∧ ∃ o', S.get id = some o' ∧ ∀ v, o'.ok M ρ w v → o.ok M (bind1 ρ n (.slice none 0 0)) w v)) :
    Inv M (bind1 ρ n (.slice none 0 0)) S2.get w ∧ ∀ b, occ (bind1 ρ n (.slice none 0 0)) S2.get b → occ ρ S.get b := by
  have hat : ∀ id, id ≠ n → at? (bind1 ρ n (.slice none 0 0)) id = at? ρ id := fun id h => by simp [at?, bind1, h]
  have hatn : at? (bind1 ρ n (.slice none 0 0)) n = none := by simp [at?, bind1, nblk]
  refine ⟨⟨hI.mem, fun id o ho => ?_, fun id id' o o' ho ho' hne b hb hb' => ?_⟩, fun b ⟨id, o, ho, hb⟩ => ?_⟩
  · rcases hS2 id o ho with ⟨rfl, rfl⟩ | ⟨hne, o', h1, h2⟩
    · exact ⟨_, by simp [bind1], .inl rfl⟩
    · obtain ⟨v, hv, hok⟩ := hI.obj id o' h1
      exact ⟨v, by simp [bind1, hne, hv], h2 v hok⟩
  · rcases hS2 id o ho with ⟨rfl, rfl⟩ | ⟨h1, o1, h2, _⟩
    · rw [hatn] at hb; cases hb
    · rcases hS2 id' o' ho' with ⟨rfl, rfl⟩ | ⟨h1', o1', h2', _⟩
      · rw [hatn] at hb'; cases hb'
      · rw [hat _ h1] at hb
        rw [hat _ h1'] at hb'
        exact hI.apart id id' o1 o1' h2 h2' hne b hb hb'
  · rcases hS2 id o ho with ⟨rfl, rfl⟩ | ⟨h1, o1, h2, _⟩
    · rw [hatn] at hb; cases hb
    · rw [hat _ h1] at hb
      exact ⟨id, o1, h2, hb⟩

theorem fin_nil {n0 : Nat} {M : Mem} {ρ : Names} {w : World} {S2 S' : Store} {a' : Act} {w' : World} {M' : Mem} {ρ' : Names} (hn0 : n0 ≤ n) (hocc : ∀ b, occ (bind1 ρ n (.slice none 0 0)) S2.get b → occ ρ S.get b)
    (h : Fin n0 M (bind1 ρ n (.slice none 0 0)) w S2 S' a' w' M' ρ') : Fin n0 M ρ w S S' a' w' M' ρ' :=
  ⟨h.inv, h.defers, h.mem, fun id hid => by rw [h.names id hid]; simp [bind1]; omega, h.os, h.tape, h.output, h.size, fun b hb ho => h.heap b hb fun h => ho (hocc b h), fun b hb => (h.blks b hb).imp id (hocc b), fun b i h1 h2 => (h.mnew b i h1 h2).imp id (hocc b)⟩

theorem free_nil {ρ : Names} (hf : ∀ id, n ≤ id → ρ id = none) : ∀ id, n + 1 ≤ id → bind1 ρ n (.slice none 0 0) id = none := by
  intro id hid
  simp only [bind1]
  rw [if_neg (by omega)]
  exact hf id (by omega)

/-- In a slot. -/
theorem run_own (t esz el : Nat) (z : PV) (hk : plainK k = true) (ht : A.get t = .nils) (hS : S.get n = none)
    (h : RunC P X fn Q ⟨k, (t, .slice (some n) esz (fun _ => 0) fun _ => z) :: A, (n, .own esz el) :: S, n + 1⟩) : RunC P X fn Q ⟨k, A, S, n⟩ := by
  refine (run_plain hk).2 fun M ρ w a b cs hG hI hf hm hR => ?_
  have hn := hf n (Nat.le_refl _)
  have hle := le_bind1 hn (.slice none 0 0)
  obtain ⟨k1, k2⟩ := inv_nil hI hn hS esz el ((n, .own esz el) :: S) (fun id o ho => by
    rw [Store.get] at ho
    cases hb : beqN n id with
    | true =>
      obtain rfl : n = id := by simpa using hb
      simp only [hb, cond_true, Option.some.injEq] at ho
      exact .inl ⟨rfl, ho.symm⟩
    | false =>
      simp only [hb, cond_false] at ho
      refine .inr ⟨fun e => by subst e; simp at hb, o, ho, fun v hv => SObj.ok_keep hv (Mem.le_refl _) hle fun b _ => ⟨rfl, fun i h => h⟩⟩)
  have hR2 : RelA M (bind1 ρ n (.slice none 0 0)) X.N (Env.get ((t, .slice (some n) esz (fun _ => 0) fun _ => z) :: A)) a := by
    refine ⟨fun s => ?_, hR.size, hR.defers⟩
    simp only [Env.get]
    cases hb : beqN t s with
    | true =>
      obtain rfl : t = s := by simpa using hb
      have := hR.slot t
      rw [ht] at this
      refine ⟨none, 0, 0, this, rfl, Nat.le_refl _, Nat.zero_le _, fun id hid => ?_, fun h => by omega⟩
      simp only [Option.some.injEq] at hid
      subst hid; simp [bind1]
    | false => exact rel_mono (Mem.le_refl _) _ hle (hR.slot s)
  obtain ⟨todo, a', w', M', ρ', v, S', u, h1, h2, h3⟩ := (run_plain hk).1 h M _ w a b cs hG k1 (free_nil hf) (Nat.le_succ_of_le hm) hR2
  exact ⟨todo, a', w', M', ρ', v, S', u, h1, fin_nil hm k2 h2, h3⟩

/-- In a variable of the call's own. -/
theorem run_ownS (id esz el : Nat) (z : PV) (hk : plainK k = true) (hid : bltN id n = true) (ht : S.get id = some (.var .nils)) (hS : S.get n = none)
    (h : RunC P X fn Q ⟨k, A, (n, .own esz el) :: (id, .var (.slice (some n) esz (fun _ => 0) fun _ => z)) :: S, n + 1⟩) : RunC P X fn Q ⟨k, A, S, n⟩ := by
  refine (run_plain hk).2 fun M ρ w a b cs hG hI hf hm hR => ?_
  have hn := hf n (Nat.le_refl _)
  have hle := le_bind1 hn (.slice none 0 0)
  have hid' := blt_lt hid
  obtain ⟨k1, k2⟩ := inv_nil hI hn hS esz el ((n, .own esz el) :: (id, .var (.slice (some n) esz (fun _ => 0) fun _ => z)) :: S) (fun id' o ho => by
    rw [Store.get] at ho
    cases hb : beqN n id' with
    | true =>
      obtain rfl : n = id' := by simpa using hb
      simp only [hb, cond_true, Option.some.injEq] at ho
      exact .inl ⟨rfl, ho.symm⟩
    | false =>
      simp only [hb, cond_false] at ho
      refine .inr ⟨fun e => by subst e; simp at hb, ?_⟩
      rw [Store.get] at ho
      cases hb2 : beqN id id' with
      | true =>
        obtain rfl : id = id' := by simpa using hb2
        simp only [hb2, cond_true, Option.some.injEq] at ho
        subst ho
        refine ⟨_, ht, ?_⟩
        rintro v ⟨b, c, t, e1, e2, e3, e4⟩
        refine ⟨b, c, t, e1, e2, ⟨none, 0, 0, e3, rfl, Nat.le_refl _, Nat.zero_le _, fun i hi => ?_, fun h => by omega⟩, e4⟩
        simp only [Option.some.injEq] at hi
        subst hi; simp [bind1]
      | false =>
        simp only [hb2, cond_false] at ho
        exact ⟨o, ho, fun v hv => SObj.ok_keep hv (Mem.le_refl _) hle fun b _ => ⟨rfl, fun i h => h⟩⟩)
  obtain ⟨todo, a', w', M', ρ', v, S', u, h1, h2, h3⟩ := (run_plain hk).1 h M _ w a b cs hG k1 (free_nil hf) (Nat.le_succ_of_le hm) (hR.mono (Mem.le_refl _) hle)
  exact ⟨todo, a', w', M', ρ', v, S', u, h1, fin_nil hm k2 h2, h3⟩
end

/-! ### An object that turns no more -/
def PV.frz (id : Nat) (pv : PV) : PV → PV
  | .ptr i off => bif beqN i id then .eptr pv.size (fun _ => 1) (fun _ => pv) (fun _ => 0) off else .ptr i off
  | .ptri i off j => bif beqN i id then .eptri pv.size (fun _ => 1) (fun _ => pv) (fun _ => 0) off j else .ptri i off j
  | .func fn a b => .func fn (PV.frz id pv a) (PV.frz id pv b)
  | .iface t x => .iface t (PV.frz id pv x)
  | .agg l => .agg (PV.frz id pv l)
  | .tuple l => .tuple (PV.frz id pv l)
  | .cons x r => .cons (PV.frz id pv x) (PV.frz id pv r)
  | p => p
def frzA (id : Nat) (pv : PV) : Env → Env
  | [] => []
  | (t, v) :: r => (t, PV.frz id pv v) :: frzA id pv r
def frzS (id : Nat) (pv : PV) : Store → Store
  | [] => []
  | (i, .var v) :: r => bif beqN i id then frzS id pv r else (i, .var (PV.frz id pv v)) :: frzS id pv r
  | (i, o) :: r => bif beqN i id then frzS id pv r else (i, o) :: frzS id pv r

theorem rel_frz {M : Mem} {id b : Nat} {pv : PV} {c : List Value} (hrow : ∀ i, M b i = c[i]?) (hc : rel M pv (fun _ => none) .cells c) : ∀ (p : PV) {ρ : Names} {m : Mode} {vs : List Value}, ρ id = some (.pointer (some ⟨b, 0, none⟩)) → rel M p ρ m vs → rel M (PV.frz id pv p) ρ m vs := by
  have hsz : c.length = pv.size := (rel_size _ hc)
  have hr : ∀ j : Nat, j < 1 → ∃ cs, cs.length = pv.size ∧ rel M pv (fun _ => none) .cells cs ∧ ∀ q, q < pv.size → M b (0 + j * pv.size + q) = cs[q]? := by
    intro j hj
    obtain rfl : j = 0 := by omega
    exact ⟨c, hsz, hc, fun q _ => by simpa using hrow q⟩
  intro p
  induction p with
  | ptr i off =>
    intro ρ m vs hid ⟨b', h1, h2⟩
    simp only [PV.frz]
    cases hb : beqN i id with
    | false => exact ⟨b', h1, h2⟩
    | true =>
      obtain rfl : i = id := by simpa using hb
      rw [hid] at h1
      simp only [Option.some.injEq, Value.pointer.injEq, Addr.mk.injEq, and_true] at h1
      subst h1
      refine ⟨b, 0, 1, by simp, by simp, by simp, hr, ?_⟩
      simpa using h2
  | ptri i off idx =>
    intro ρ m vs hid ⟨b', h1, h0, h2⟩
    simp only [PV.frz]
    cases hb : beqN i id with
    | false => exact ⟨b', h1, h0, h2⟩
    | true =>
      obtain rfl : i = id := by simpa using hb
      rw [hid] at h1
      simp only [Option.some.injEq, Value.pointer.injEq, Addr.mk.injEq, and_true] at h1
      subst h1
      refine ⟨b, 0, 1, by simp, by simp, by simp, h0, hr, ?_⟩
      simpa using h2
  | func fn first captured ih1 ih2 => intro ρ m vs hid ⟨fs, cs, h1, h2, h3⟩; exact ⟨fs, cs, h1, ih1 hid h2, ih2 hid h3⟩
  | iface t x ih => intro ρ m vs hid ⟨v, h1, h2⟩; exact ⟨v, h1, ih hid h2⟩
  | agg l ih =>
    intro ρ m vs hid hx
    rcases hx with ⟨h1, h2⟩ | ⟨h1, cs, h2, h3⟩
    · exact .inl ⟨h1, ih hid h2⟩
    · exact .inr ⟨h1, cs, h2, ih hid h3⟩
  | tuple l ih => intro ρ m vs hid ⟨h1, ws, h2, h3⟩; exact ⟨h1, ws, h2, ih hid h3⟩
  | cons x r ih1 ih2 =>
    intro ρ m vs hid hx
    rcases hx with ⟨h1, c, d, h2, h3, h4⟩ | ⟨h1, v, ws, h2, h3, h4⟩
    · exact .inl ⟨h1, c, d, h2, ih1 hid h3, ih2 hid h4⟩
    · exact .inr ⟨h1, v, ws, h2, ih1 hid h3, ih2 hid h4⟩
  | _ => intro ρ m vs hid h; exact h

theorem frzA_get {id : Nat} {pv : PV} : ∀ (A : Env) (t : Nat), (frzA id pv A).get t = PV.frz id pv (A.get t)
  | [], t => rfl
  | (d, v) :: r, t => by
    simp only [frzA, Env.get]
    cases beqN d t with
    | true => rfl
    | false => exact frzA_get r t
theorem frzS_get {id : Nat} {pv : PV} : ∀ (S : Store) (i : Nat) (o : SObj), (frzS id pv S).get i = some o → i ≠ id ∧ ∃ o', S.get i = some o' ∧ (o = o' ∨ ∃ v, o' = .var v ∧ o = .var (PV.frz id pv v))
  | [], i, o, h => by simp [frzS, Store.get] at h
  | (j, x) :: r, i, o, h => by
    have ih := frzS_get (id := id) (pv := pv) r i o
    have key : ∀ y, (y = x ∨ ∃ v, x = .var v ∧ y = .var (PV.frz id pv v)) → (bif beqN j id then frzS id pv r else (j, y) :: frzS id pv r).get i = some o → i ≠ id ∧ ∃ o', Store.get ((j, x) :: r) i = some o' ∧ (o = o' ∨ ∃ v, o' = .var v ∧ o = .var (PV.frz id pv v)) := by
      intro y hy h
      cases hb : beqN j id with
      | true =>
        rw [hb, cond_true] at h
        obtain ⟨h1, o', h2, h3⟩ := ih h
        obtain rfl : j = id := by simpa using hb
        refine ⟨h1, o', ?_, h3⟩
        rw [Store.get, nbeq h1]; exact h2
      | false =>
        rw [hb, cond_false, Store.get] at h
        have hne : j ≠ id := by intro e; subst e; simp at hb
        cases hj : beqN j i with
        | true =>
          obtain rfl : j = i := by simpa using hj
          simp only [hj, cond_true, Option.some.injEq] at h
          subst h
          exact ⟨hne, x, by simp [Store.get], hy⟩
        | false =>
          simp only [hj, cond_false] at h
          obtain ⟨h1, o', h2, h3⟩ := ih h
          exact ⟨h1, o', by rw [Store.get, hj]; exact h2, h3⟩
    cases x with
    | var v => exact key (.var (PV.frz id pv v)) (.inr ⟨v, rfl, rfl⟩) h
    | map e => exact key _ (.inl rfl) h
    | own e t => exact key _ (.inl rfl) h
    | raw e => exact key _ (.inl rfl) h

theorem run_freeze {X : Ctx} {fn : Func} {Q : PV → Store → Prop} {k : List It} {A : Env} {S : Store} {n : Nat} (id : Nat) (pv : PV) (hk : plainK k = true) (ho : S.get id = some (.var pv)) (hp : pv.pure = true)
    (h : RunC P X fn Q ⟨k, frzA id pv.strip A, frzS id pv.strip S, n⟩) : RunC P X fn Q ⟨k, A, S, n⟩ := by
  refine (run_plain hk).2 fun M ρ w a b cs hG hI hf hm hR => ?_
  obtain ⟨v, hv, b0, c, t, rfl, hheap, hrel, hMb⟩ := hI.obj id (.var pv) ho
  have hle : M.le (withRow M b0 c.toList) := by
    intro b i v hv
    unfold withRow
    split
    · rename_i e; rw [e, hMb] at hv; cases hv
    · exact hv
  have hrow : ∀ i, withRow M b0 c.toList b0 i = c.toList[i]? := fun i => by simp [withRow]
  have hrc : rel (withRow M b0 c.toList) pv.strip (fun _ => none) .cells c.toList := rel_mono hle _ (Names.le_refl _) (strip_rel _ hp hrel)
  have hfz : ∀ {p : PV} {m : Mode} {vs : List Value}, rel M p ρ m vs → rel (withRow M b0 c.toList) (PV.frz id pv.strip p) ρ m vs := fun h => rel_frz hrow hrc _ hv (rel_mono hle _ (Names.le_refl _) h)
  have hat : at? ρ id = some b0 := by simp [at?, hv, nblk]
  have hocc : ∀ b, occ ρ (frzS id pv.strip S).get b → occ ρ S.get b := by
    rintro b ⟨i, o, h1, h2⟩
    obtain ⟨_, o', h3, _⟩ := frzS_get S i o h1
    exact ⟨i, o', h3, h2⟩
  have hI2 : Inv (withRow M b0 c.toList) ρ (frzS id pv.strip S).get w := by
    refine ⟨fun b i v hm => ?_, fun i o hi => ?_, fun i i' o o' hi hi' hne b hb hb' => ?_⟩
    · unfold withRow at hm
      split at hm
      · rename_i e
        rw [e, cells_of_block hheap]; simpa using hm
      · exact hI.mem b i v hm
    · obtain ⟨hne, o', h1, h2⟩ := frzS_get S i o hi
      obtain ⟨v, hv', hok⟩ := hI.obj i o' h1
      refine ⟨v, hv', ?_⟩
      have hnb : ∀ b, nblk v = some b → b ≠ b0 := fun b hb e => hI.apart i id o' _ h1 ho hne b (by simp [at?, hv', hb]) (e ▸ hat)
      have hkeep := SObj.ok_keep (M' := withRow M b0 c.toList) (ρ' := ρ) (w' := w) hok hle (Names.le_refl _) fun b hb => ⟨rfl, fun i h => by rw [withRow, if_neg (hnb b hb)] at h; exact h⟩
      rcases h2 with rfl | ⟨v0, rfl, rfl⟩
      · exact hkeep
      · obtain ⟨b', c', t', e1, e2, e3, e4⟩ := hkeep
        exact ⟨b', c', t', e1, e2, rel_frz hrow hrc _ hv e3, e4⟩
    · obtain ⟨_, x, h1, _⟩ := frzS_get S i o hi
      obtain ⟨_, x', h1', _⟩ := frzS_get S i' o' hi'
      exact hI.apart i i' x x' h1 h1' hne b hb hb'
  obtain ⟨todo, a', w', M', ρ', v, S', u, h1, h2, h3⟩ := (run_plain hk).1 h _ ρ w a b cs (hG.mono hle) hI2 hf hm ⟨fun t => by rw [frzA_get]; exact hfz (hR.slot t), hR.size, hR.defers⟩
  refine ⟨todo, a', w', M', ρ', v, S', u, h1, ⟨h2.inv, h2.defers, Mem.le_trans hle h2.mem, h2.names, h2.os, h2.tape, h2.output, h2.size, fun b hb ho => h2.heap b hb fun h => ho (hocc b h), fun b hb => (h2.blks b hb).imp _root_.id (hocc b), fun b i g1 g2 => ?_⟩, h3⟩
  by_cases hb : b = b0
  · subst hb
    exact .inr ⟨id, _, ho, hat⟩
  · exact (h2.mnew b i g1 (by rw [withRow, if_neg hb]; exact g2)).imp _root_.id (hocc b)
end Go.Abs
/- SHAPES: a table's entry by the shape of its arguments. -/
set_option linter.unusedVariables false
set_option linter.unusedSimpArgs false
namespace Go.Abs
variable {P : Program} {G : Nat → PV}

inductive Sh where
  | int (k : IntKind) | bool | str | arrI (k : IntKind) (n : Nat) | arrB (n : Nat) | arrS (n : Nat)
  | nil | cons (a b : Sh) | agg (a : Sh) | slice (esz : Nat) (a : Sh) | fn (f : Nat) | eptr (esz : Nat) (a : Sh) | fnv (f : Nat) (a : Sh)

/-- What stands in a value of a shape. -/
def Sh.val : Sh → Type
  | .int _ => Int
  | .bool => Bool
  | .str => ByteArray
  | .arrI _ _ => List Int
  | .arrB _ => List Bool
  | .arrS _ => List ByteArray
  | .nil => Unit
  | .cons a b => a.val × b.val
  | .agg a => a.val
  | .slice _ a => List a.val
  | .fn _ => Unit
  | .eptr _ a => a.val
  | .fnv _ a => a.val
def Sh.dflt : (a : Sh) → a.val
  | .int _ => (0 : Int)
  | .bool => false
  | .str => ByteArray.empty
  | .arrI _ _ => ([] : List Int)
  | .arrB _ => ([] : List Bool)
  | .arrS _ => ([] : List ByteArray)
  | .nil => ()
  | .cons a b => (a.dflt, b.dflt)
  | .agg a => a.dflt
  | .slice _ a => ([] : List a.val)
  | .fn _ => ()
  | .eptr _ a => a.dflt
  | .fnv _ a => a.dflt
def rdL {α : Type} (r : PV → α) (len : Unit → Int) (f : (Unit → Int) → PV) : List α := (List.range (len ()).toNat).map fun (i : Nat) => r (f fun _ => (i : Int))
theorem rdL_len {α : Type} (r : PV → α) (len : Unit → Int) (f : (Unit → Int) → PV) : (rdL r len f).length = (len ()).toNat := by simp [rdL]
theorem rdL_get {α : Type} (r : PV → α) (len : Unit → Int) (f : (Unit → Int) → PV) (d : α) {j : Nat} (h : j < (len ()).toNat) : (rdL r len f).getD j d = r (f fun _ => (j : Int)) := by
  rw [List.getD_eq_getElem?_getD]
  simp only [rdL, List.getElem?_map, List.getElem?_range h, Option.map_some, Option.getD_some]
/-- The value that a word names. -/
def Sh.rd : (a : Sh) → PV → a.val
  | .int _, .int _ n => n ()
  | .bool, .tt => true
  | .bool, .bool b => b ()
  | .str, .str s => s ()
  | .arrI _ _, .arrI _ _ l => l ()
  | .arrB _, .arrB _ l => l ()
  | .arrS _, .arrS _ l => l ()
  | .cons a b, .cons x y => (a.rd x, b.rd y)
  | .agg a, .agg x => a.rd x
  | .slice _ a, .slice _ _ len f => rdL a.rd len f
  | .eptr _ a, .eptr _ _ g i _ => a.rd (g i)
  | .fnv _ a, .func _ _ c => a.rd c
  | a, _ => a.dflt
/-- Is a word of the shape? -/
def Sh.fits : Sh → PV → Prop
  | .int k, .int k' _ => k' = k
  | .bool, .tt => True
  | .bool, .ff => True
  | .bool, .bool _ => True
  | .str, .str _ => True
  | .arrI k n, .arrI k' n' _ => k' = k ∧ n' = n
  | .arrB n, .arrB n' _ => n' = n
  | .arrS n, .arrS n' _ => n' = n
  | .nil, .nil => True
  | .cons a b, .cons x y => a.fits x ∧ b.fits y
  | .agg a, .agg x => a.fits x
  | .slice esz a, .slice _ esz' _ f => esz' = esz ∧ ∀ j, a.fits (f j)
  | .slice _ _, .nils => True
  | .fn f, .func (.func f') .nil .nil => f' = f
  | .eptr esz a, .eptr esz' _ g i off => esz' = esz ∧ off = 0 ∧ a.fits (g i)
  | .fnv f a, .func (.func f') .nil c => f' = f ∧ a.fits c
  | _, _ => False
/-- A word for a value. -/
def Sh.mk : (a : Sh) → (Unit → a.val) → PV
  | .int k, t => .int k t
  | .bool, t => .bool t
  | .str, t => .str t
  | .arrI k n, t => .arrI k n t
  | .arrB n, t => .arrB n t
  | .arrS n, t => .arrS n t
  | .nil, _ => .nil
  | .cons a b, t => .cons (a.mk fun _ => (t ()).1) (b.mk fun _ => (t ()).2)
  | .agg a, t => .agg (a.mk t)
  | .slice esz a, t => .slice none esz (fun _ => (List.length (α := a.val) (t ()) : Int)) fun j => a.mk fun _ => List.getD (α := a.val) (t ()) (j ()).toNat a.dflt
  | .fn f, _ => .func (.func f) .nil .nil
  | .eptr esz a, t => .eptr esz (fun _ => 1) (fun _ => a.mk t) (fun _ => 0) 0
  | .fnv f a, t => .func (.func f) .nil (a.mk t)
/-- A list. -/
def Sh.mkL (esz : Nat) (a : Sh) (t : Unit → List a.val) : PV := .slice none esz (fun _ => ((t ()).length : Int)) fun j => a.mk fun _ => (t ()).getD (j ()).toNat a.dflt

/-- A pointer into a row, as one to an object by itself. -/
theorem eptr_one {M : Mem} {ρ : Names} {m : Mode} {vs : List Value} {esz : Nat} {len : Unit → Int} {g : (Unit → Int) → PV} {i : Unit → Int} {q : PV} (hq : ∀ cs, rel M (g i) (fun _ => none) .cells cs → rel M q (fun _ => none) .cells cs)
    (h : rel M (.eptr esz len g i 0) ρ m vs) : rel M (.eptr esz (fun _ => 1) (fun _ => q) (fun _ => 0) 0) ρ m vs := by
  obtain ⟨b, base, n, h1, h2, h3, hrow, h4⟩ := h
  refine ⟨b, base + (i ()).toNat * esz, 1, rfl, Int.le_refl _, by decide, fun j hj => ?_, by simpa using h4⟩
  obtain rfl : j = 0 := by omega
  obtain ⟨cs, c1, c2, c3⟩ := hrow (i ()).toNat (by omega)
  refine ⟨cs, c1, hq cs ?_, fun q hq => by simpa using c3 q hq⟩
  have e : (fun _ : Unit => (((i ()).toNat : Nat) : Int)) = i := by funext u; exact Int.toNat_of_nonneg h2
  rwa [e] at c2
theorem Sh.fits_mk {M : Mem} : ∀ (a : Sh) {p : PV} {ρ : Names} {m : Mode} {vs : List Value}, a.fits p → rel M p ρ m vs → rel M (a.mk fun _ => a.rd p) ρ m vs := by
  intro a
  induction a with
  | int k => intro p ρ m vs h hr; cases p <;> simp only [Sh.fits] at h; subst h; exact hr
  | bool => intro p ρ m vs h hr; cases p <;> simp only [Sh.fits] at h <;> exact hr
  | str => intro p ρ m vs h hr; cases p <;> simp only [Sh.fits] at h; exact hr
  | arrI k n => intro p ρ m vs h hr; cases p <;> simp only [Sh.fits] at h; obtain ⟨rfl, rfl⟩ := h; exact hr
  | arrB n => intro p ρ m vs h hr; cases p <;> simp only [Sh.fits] at h; subst h; exact hr
  | arrS n => intro p ρ m vs h hr; cases p <;> simp only [Sh.fits] at h; subst h; exact hr
  | nil => intro p ρ m vs h hr; cases p <;> simp only [Sh.fits] at h; exact hr
  | cons a b iha ihb =>
    intro p ρ m vs h hr
    cases p <;> simp only [Sh.fits] at h
    rcases hr with ⟨h1, c, d, h2, h3, h4⟩ | ⟨h1, v, ws, h2, h3, h4⟩
    · exact .inl ⟨h1, c, d, h2, iha h.1 h3, ihb h.2 h4⟩
    · exact .inr ⟨h1, v, ws, h2, iha h.1 h3, ihb h.2 h4⟩
  | agg a ih =>
    intro p ρ m vs h hr
    cases p <;> simp only [Sh.fits] at h
    rcases hr with ⟨h1, h2⟩ | ⟨h1, cs, h2, h3⟩
    · exact .inl ⟨h1, ih h h2⟩
    · exact .inr ⟨h1, cs, h2, ih h h3⟩
  | slice esz a ih =>
    intro p ρ m vs h hr
    cases p <;> simp only [Sh.fits] at h
    case slice tok esz' len f =>
      obtain ⟨rfl, h⟩ := h
      obtain ⟨ad, n, cap, h1, h2, h3, h4, h5, h6⟩ := hr
      refine ⟨ad, n, cap, h1, ?_, h3, h4, fun id hid => (by cases hid), fun hn => ?_⟩
      · show (n : Int) = ((rdL a.rd len f).length : Int)
        rw [rdL_len]; omega
      · obtain ⟨b, base, e, hrow⟩ := h6 hn
        refine ⟨b, base, e, fun j hj => ?_⟩
        obtain ⟨cs, k1, k2, k3⟩ := hrow j hj
        refine ⟨cs, k1, ?_, k3⟩
        have := ih (h _) k2
        have e : (rdL a.rd len f).getD j a.dflt = a.rd (f fun _ => (j : Int)) := rdL_get _ _ _ _ (by omega)
        rw [← e] at this
        exact this
    case nils =>
      exact ⟨none, 0, 0, hr, rfl, Nat.le_refl _, Nat.zero_le _, fun id hid => (by cases hid), fun hn => (by omega)⟩

  | fn f =>
    intro p ρ m vs h hr
    cases p <;> try (simp only [Sh.fits] at h; done)
    rename_i g x y
    cases g <;> cases x <;> cases y <;> try (simp only [Sh.fits] at h; done)
    simp only [Sh.fits] at h
    subst h
    exact hr

  | eptr esz a ih =>
    intro p ρ m vs h hr
    cases p <;> try (simp only [Sh.fits] at h; done)
    rename_i esz' len g i off
    obtain ⟨rfl, rfl, h⟩ := h
    exact eptr_one (fun cs hc => ih h hc) hr
  | fnv f a ih =>
    intro p ρ m vs h hr
    cases p <;> try (simp only [Sh.fits] at h; done)
    rename_i g x y
    cases g <;> cases x <;> try (simp only [Sh.fits] at h; done)
    obtain ⟨rfl, h⟩ := h
    obtain ⟨fs, cs, k1, k2, k3⟩ := hr
    exact ⟨fs, cs, k1, k2, ih h k3⟩

/-- A function of the values, one behind the other. -/
def Sh.Fn : Sh → Type → Type
  | .int _, R => (Unit → Int) → R
  | .bool, R => (Unit → Bool) → R
  | .str, R => (Unit → ByteArray) → R
  | .arrI _ _, R => (Unit → List Int) → R
  | .arrB _, R => (Unit → List Bool) → R
  | .arrS _, R => (Unit → List ByteArray) → R
  | .nil, R => R
  | .cons a b, R => a.Fn (b.Fn R)
  | .agg a, R => a.Fn R
  | .slice _ a, R => (Unit → List a.val) → R
  | .fn _, R => R
  | .eptr _ a, R => a.Fn R
  | .fnv _ a, R => a.Fn R
/-- It, at a word. -/
def Sh.app : {R : Type} → (a : Sh) → a.Fn R → PV → Option (R × List (Unit → Prop))
  | _, .int k, f, .int k' n => bif decide (k = k') then some (f n, []) else none
  | _, .bool, f, .tt => some (f fun _ => true, [])
  | _, .bool, f, .ff => some (f fun _ => false, [])
  | _, .bool, f, .bool b => some (f b, [])
  | _, .str, f, .str s => some (f s, [])
  | _, .arrI k n, f, .arrI k' n' l => bif decide (k = k') && beqN n n' then some (f l, []) else none
  | _, .arrB n, f, .arrB n' l => bif beqN n n' then some (f l, []) else none
  | _, .arrS n, f, .arrS n' l => bif beqN n n' then some (f l, []) else none
  | _, .nil, f, .nil => some (f, [])
  | _, .cons a b, f, .cons x y => match a.app f x with
    | some (g, C) => match b.app g y with
      | some (q, C') => some (q, C ++ C')
      | none => none
    | none => none
  | _, .agg a, f, .agg x => a.app f x
  | _, .slice esz a, f, .slice _ esz' len g => bif beqN esz esz' then some (f (fun _ => rdL a.rd len g), [fun _ => ∀ j, a.fits (g j)]) else none
  | _, .slice _ _, f, .nils => some (f fun _ => [], [])
  | _, .fn g, f, .func (.func g') .nil .nil => bif beqN g g' then some (f, []) else none
  | _, .eptr esz a, f, .eptr esz' _ g i off => bif beqN esz esz' && beqN off 0 then a.app f (g i) else none
  | _, .fnv g a, f, .func (.func g') .nil c => bif beqN g g' then a.app f c else none
  | _, _, _, _ => none
/-- What holds of it at all values. -/
def Sh.All : {R : Type} → (a : Sh) → a.Fn R → (PV → R → Prop) → Prop
  | _, .int k, f, Φ => ∀ n : Unit → Int, Φ (.int k n) (f n)
  | _, .bool, f, Φ => ∀ b : Unit → Bool, Φ (.bool b) (f b)
  | _, .str, f, Φ => ∀ s : Unit → ByteArray, Φ (.str s) (f s)
  | _, .arrI k n, f, Φ => ∀ l : Unit → List Int, (l ()).length = n → Φ (.arrI k n l) (f l)
  | _, .arrB n, f, Φ => ∀ l : Unit → List Bool, (l ()).length = n → Φ (.arrB n l) (f l)
  | _, .arrS n, f, Φ => ∀ l : Unit → List ByteArray, (l ()).length = n → Φ (.arrS n l) (f l)
  | _, .nil, f, Φ => Φ .nil f
  | _, .cons a b, f, Φ => a.All f fun x g => b.All g fun y q => Φ (.cons x y) q
  | _, .agg a, f, Φ => a.All f fun x q => Φ (.agg x) q
  | _, .slice esz a, f, Φ => ∀ l : Unit → List a.val, Φ (Sh.mkL esz a l) (f l)
  | _, .fn g, f, Φ => Φ (.func (.func g) .nil .nil) f
  | _, .eptr esz a, f, Φ => a.All f fun x q => Φ (.eptr esz (fun _ => 1) (fun _ => x) (fun _ => 0) 0) q
  | _, .fnv g a, f, Φ => a.All f fun x q => Φ (.func (.func g) .nil x) q

theorem Sh.app_ok {M : Mem} : ∀ (a : Sh) {R : Type} {f : a.Fn R} {Φ : PV → R → Prop} {p : PV} {q : R} {C : List (Unit → Prop)} {ρ : Names} {m : Mode} {vs : List Value},
    a.app f p = some (q, C) → a.All f Φ → (∀ c ∈ C, c ()) → rel M p ρ m vs → ∃ p', rel M p' ρ m vs ∧ Φ p' q := by
  intro a
  induction a with
  | int k =>
    intro R f Φ p q C ρ m vs h hA hC hr
    cases p <;> simp only [Sh.app, reduceCtorEq] at h
    rename_i k' n
    by_cases e : k = k'
    · subst e
      simp only [decide_true, cond_true, Option.some.injEq, Prod.mk.injEq] at h
      obtain ⟨rfl, rfl⟩ := h
      exact ⟨_, hr, hA n⟩
    · simp [e] at h
  | bool =>
    intro R f Φ p q C ρ m vs h hA hC hr
    cases p <;> simp only [Sh.app, reduceCtorEq, Option.some.injEq, Prod.mk.injEq] at h <;> obtain ⟨rfl, rfl⟩ := h
    · exact ⟨_, (show rel M (.bool fun _ => true) ρ m vs from hr), hA _⟩
    · exact ⟨_, (show rel M (.bool fun _ => false) ρ m vs from hr), hA _⟩
    · exact ⟨_, hr, hA _⟩
  | str =>
    intro R f Φ p q C ρ m vs h hA hC hr
    cases p <;> simp only [Sh.app, reduceCtorEq, Option.some.injEq, Prod.mk.injEq] at h
    obtain ⟨rfl, rfl⟩ := h
    exact ⟨_, hr, hA _⟩
  | arrI k n =>
    intro R f Φ p q C ρ m vs h hA hC hr
    cases p <;> simp only [Sh.app, reduceCtorEq] at h
    rename_i k' n' l
    by_cases e : k = k' ∧ n = n'
    · obtain ⟨rfl, rfl⟩ := e
      simp only [decide_true, Bool.true_and, beq_self_eq_true, cond_true, Option.some.injEq, Prod.mk.injEq] at h
      obtain ⟨rfl, rfl⟩ := h
      exact ⟨_, hr, hA l hr.1⟩
    · have : (decide (k = k') && beqN n n') = false := by
        rw [Bool.eq_false_iff]; intro hc; simp only [Bool.and_eq_true, decide_eq_true_eq, beq_iff_eq] at hc; exact e hc
      rw [this] at h; cases h
  | arrB n =>
    intro R f Φ p q C ρ m vs h hA hC hr
    cases p <;> simp only [Sh.app, reduceCtorEq] at h
    rename_i n' l
    by_cases e : n = n'
    · subst e
      simp only [beq_self_eq_true, cond_true, Option.some.injEq, Prod.mk.injEq] at h
      obtain ⟨rfl, rfl⟩ := h
      exact ⟨_, hr, hA l hr.1⟩
    · rw [nbeq (fun h => e h.symm)] at h; cases h
  | arrS n =>
    intro R f Φ p q C ρ m vs h hA hC hr
    cases p <;> simp only [Sh.app, reduceCtorEq] at h
    rename_i n' l
    by_cases e : n = n'
    · subst e
      simp only [beq_self_eq_true, cond_true, Option.some.injEq, Prod.mk.injEq] at h
      obtain ⟨rfl, rfl⟩ := h
      exact ⟨_, hr, hA l hr.1⟩
    · rw [nbeq (fun h => e h.symm)] at h; cases h
  | nil =>
    intro R f Φ p q C ρ m vs h hA hC hr
    cases p <;> simp only [Sh.app, reduceCtorEq, Option.some.injEq, Prod.mk.injEq] at h
    obtain ⟨rfl, rfl⟩ := h
    exact ⟨_, hr, hA⟩
  | cons a b iha ihb =>
    intro R f Φ p q C ρ m vs h hA hC hr
    cases p <;> simp only [Sh.app, reduceCtorEq] at h
    rename_i x y
    cases h1 : a.app f x with
    | none => rw [h1] at h; cases h
    | some g =>
      obtain ⟨g, C1⟩ := g
      rw [h1] at h
      simp only at h
      cases h2 : b.app g y with
      | none => rw [h2] at h; cases h
      | some q' =>
        obtain ⟨q', C2⟩ := q'
        rw [h2] at h
        simp only [Option.some.injEq, Prod.mk.injEq] at h
        obtain ⟨rfl, rfl⟩ := h
        rcases hr with ⟨e, c, d, k2, k3, k4⟩ | ⟨e, v, ws, k2, k3, k4⟩
        · obtain ⟨x', l1, l2⟩ := iha h1 hA (fun c hc => hC c (List.mem_append_left _ hc)) k3
          obtain ⟨y', l3, l4⟩ := ihb h2 l2 (fun c hc => hC c (List.mem_append_right _ hc)) k4
          exact ⟨.cons x' y', Or.inl ⟨e, c, d, k2, l1, l3⟩, l4⟩
        · obtain ⟨x', l1, l2⟩ := iha h1 hA (fun c hc => hC c (List.mem_append_left _ hc)) k3
          obtain ⟨y', l3, l4⟩ := ihb h2 l2 (fun c hc => hC c (List.mem_append_right _ hc)) k4
          exact ⟨.cons x' y', Or.inr ⟨e, v, ws, k2, l1, l3⟩, l4⟩
  | agg a ih =>
    intro R f Φ p q C ρ m vs h hA hC hr
    cases p <;> simp only [Sh.app, reduceCtorEq] at h
    rcases hr with ⟨e, h2⟩ | ⟨e, cs, h2, h3⟩
    · obtain ⟨x', l1, l2⟩ := ih h hA hC h2
      exact ⟨.agg x', Or.inl ⟨e, l1⟩, l2⟩
    · obtain ⟨x', l1, l2⟩ := ih h hA hC h3
      exact ⟨.agg x', Or.inr ⟨e, cs, h2, l1⟩, l2⟩
  | slice esz a ih =>
    intro R f Φ p q C ρ m vs h hA hC hr
    cases p <;> simp only [Sh.app, reduceCtorEq] at h
    case slice tok esz' len g =>
      by_cases e : esz = esz'
      · subst e
        simp only [beq_self_eq_true, cond_true, Option.some.injEq, Prod.mk.injEq] at h
        obtain ⟨rfl, rfl⟩ := h
        have hf : ∀ j, a.fits (g j) := hC _ (List.mem_singleton.2 rfl)
        exact ⟨Sh.mkL esz a fun _ => rdL a.rd len g, Sh.fits_mk (.slice esz a) (p := .slice tok esz len g) ⟨rfl, hf⟩ hr, hA _⟩
      · rw [nbeq (fun h => e h.symm)] at h; cases h
    case nils =>
      simp only [Option.some.injEq, Prod.mk.injEq] at h
      obtain ⟨rfl, rfl⟩ := h
      exact ⟨Sh.mkL esz a fun _ => [], Sh.fits_mk (.slice esz a) (p := .nils) trivial hr, hA _⟩

  | fn g =>
    intro R f Φ p q C ρ m vs h hA hC hr
    cases p <;> try (simp only [Sh.app, reduceCtorEq] at h; done)
    rename_i g' x y
    cases g' <;> cases x <;> cases y <;> try (simp only [Sh.app, reduceCtorEq] at h; done)
    simp only [Sh.app] at h
    rename_i g'
    by_cases e : g = g'
    · subst e
      simp only [beq_self_eq_true, cond_true, Option.some.injEq, Prod.mk.injEq] at h
      obtain ⟨rfl, rfl⟩ := h
      exact ⟨_, hr, hA⟩
    · rw [nbeq (fun h => e h.symm)] at h; cases h

  | eptr esz a ih =>
    intro R f Φ p q C ρ m vs h hA hC hr
    cases p <;> try (simp only [Sh.app, reduceCtorEq] at h; done)
    rename_i esz' len g i off
    simp only [Sh.app] at h
    by_cases e : esz = esz' ∧ off = 0
    · obtain ⟨rfl, rfl⟩ := e
      simp only [beq_self_eq_true, Bool.and_self, cond_true] at h
      obtain ⟨b, base, n, h1, h2, h3, hrow, h4⟩ := hr
      obtain ⟨cs, c1, c2, c3⟩ := hrow (i ()).toNat (by omega)
      have ei : (fun _ : Unit => (((i ()).toNat : Nat) : Int)) = i := by funext u; exact Int.toNat_of_nonneg h2
      rw [ei] at c2
      obtain ⟨x', l1, l2⟩ := ih h hA hC c2
      refine ⟨.eptr esz (fun _ => 1) (fun _ => x') (fun _ => 0) 0, ⟨b, base + (i ()).toNat * esz, 1, rfl, Int.le_refl _, by decide, fun j hj => ?_, by simpa using h4⟩, l2⟩
      obtain rfl : j = 0 := by omega
      exact ⟨cs, c1, l1, fun q hq => by simpa using c3 q hq⟩
    · have : (beqN esz esz' && beqN off 0) = false := by
        rw [Bool.eq_false_iff]; intro hc; simp only [Bool.and_eq_true, beq_iff_eq] at hc; exact e hc
      rw [this] at h; cases h
  | fnv g a ih =>
    intro R f Φ p q C ρ m vs h hA hC hr
    cases p <;> try (simp only [Sh.app, reduceCtorEq] at h; done)
    rename_i g' x y
    cases g' <;> cases x <;> try (simp only [Sh.app, reduceCtorEq] at h; done)
    simp only [Sh.app] at h
    rename_i g'
    by_cases e : g = g'
    · subst e
      simp only [beq_self_eq_true, cond_true] at h
      obtain ⟨fs, cs, k1, k2, k3⟩ := hr
      obtain ⟨x', l1, l2⟩ := ih h hA hC k3
      exact ⟨.func (.func g) .nil x', ⟨fs, cs, k1, k2, l1⟩, l2⟩
    · rw [nbeq (fun h => e h.symm)] at h; cases h

/-- A table's entry. -/
abbrev Res := PV × List (Unit → Prop)
def entry (a : Sh) (f : a.Fn Res) (args : PV) : Option Res :=
  match a.app f args with
  | some ((r, C), C') => some (r, C ++ C')
  | none => none
/-- A table with one entry more; where it does not serve, the table behind it is asked. -/
def addS (f : Nat) (a : Sh) (s : a.Fn Res) (F : Table) : Table := fun g args => bif beqN g f then (match entry a s args with
  | some r => some r
  | none => F g args) else F g args
theorem entry_ok {f : Nat} {a : Sh} {s : a.Fn Res} (hc : Callable P f) (h : a.All s fun args q => conds q.2 → PFun P G f args q.1) {args r : PV} {C : List (Unit → Prop)} (hs : entry a s args = some (r, C)) (hC : ∀ c ∈ C, c ()) : PFun P G f args r := by
  refine ⟨hc, fun M w vs hG hI hr => ?_⟩
  unfold entry at hs
  cases h1 : a.app s args with
  | none => rw [h1] at hs; cases hs
  | some q =>
    obtain ⟨⟨r1, C1⟩, C2⟩ := q
    rw [h1] at hs
    simp only [Option.some.injEq, Prod.mk.injEq] at hs
    obtain ⟨rfl, rfl⟩ := hs
    obtain ⟨p', k1, k2⟩ := Sh.app_ok a h1 h (fun c hc => hC c (List.mem_append_right _ hc)) hr
    have hcond : conds C1 := by
      clear h1 k2
      induction C1 with
      | nil => trivial
      | cons c C ih => exact ⟨hC c (by simp), ih fun c hc => hC c (by simp only [List.mem_append, List.mem_cons] at hc ⊢; rcases hc with hc | hc; exact .inl (.inr hc); exact .inr hc)⟩
    exact (k2 hcond).2 M w vs hG hI k1
theorem addS_ok {f : Nat} {a : Sh} {s : a.Fn Res} {F : Table} (hc : Callable P f) (h : a.All s fun args q => conds q.2 → PFun P G f args q.1) (hF : TableOK P G F) : TableOK P G (addS f a s F) := by
  intro g args r C hq hC
  unfold addS at hq
  cases hb : beqN g f with
  | true =>
    obtain rfl : g = f := by simpa using hb
    rw [hb] at hq
    simp only [cond_true] at hq
    split at hq
    · rename_i q hs
      simp only [Option.some.injEq] at hq
      subst hq
      exact entry_ok hc h hs hC
    · exact hF _ _ _ _ hq hC
  | false =>
    rw [hb] at hq
    exact hF _ _ _ _ hq hC
theorem FnOK.callable {X : Ctx} {f : Nat} {fn : Func} {c : Code} (h : FnOK P X f fn c) : Callable P f := ⟨fn, h.func, h.name, by rw [h.body]; rfl⟩
end Go.Abs
/- INLINED: a function whose text has no loop enters the table by itself; all its paths are merged into one word. -/
set_option linter.unusedVariables false
set_option linter.unusedSimpArgs false
namespace Go.Abs
variable {P : Program} {G : Nat → PV}

/-- One of two words. -/
def PV.mrx (c : Unit → Bool) : PV → PV → PV
  | .tuple l, .tuple l' => .tuple (PV.mrx c l l')
  | .agg l, .agg l' => .agg (PV.mrx c l l')
  | .cons x r, .cons x' r' => .cons (PV.mrx c x x') (PV.mrx c r r')
  | .arrI k n l, .arrI k' n' l' => bif decide (k = k') && beqN n n' then .arrI k n (fun _ => bif c () then l () else l' ()) else bif c () then .arrI k n l else .arrI k' n' l'
  | .arrB n l, .arrB n' l' => bif beqN n n' then .arrB n (fun _ => bif c () then l () else l' ()) else bif c () then .arrB n l else .arrB n' l'
  | .arrS n l, .arrS n' l' => bif beqN n n' then .arrS n (fun _ => bif c () then l () else l' ()) else bif c () then .arrS n l else .arrS n' l'
  | .nils, .slice none esz len f => .slice none esz (fun _ => bif c () then 0 else len ()) f
  | .slice none esz len f, .nils => .slice none esz (fun _ => bif c () then len () else 0) f
  | p, q => PV.mrg c p q

theorem mrx_tt {M : Mem} {c : Unit → Bool} (hc : c () = true) : ∀ (p q : PV) {ρ : Names} {m : Mode} {vs : List Value}, rel M p ρ m vs → rel M (PV.mrx c p q) ρ m vs := by
  intro p
  induction p with
  | tuple l ih =>
    intro q ρ m vs h
    cases q with
    | tuple l' => obtain ⟨h1, ws, h2, h3⟩ := h; exact ⟨h1, ws, h2, ih _ h3⟩
    | _ => exact mrg_tt hc _ _ h
  | agg l ih =>
    intro q ρ m vs h
    cases q with
    | agg l' =>
      rcases h with ⟨h1, h2⟩ | ⟨h1, cs, h2, h3⟩
      · exact .inl ⟨h1, ih _ h2⟩
      · exact .inr ⟨h1, cs, h2, ih _ h3⟩
    | _ => exact mrg_tt hc _ _ h
  | cons x r ih1 ih2 =>
    intro q ρ m vs h
    cases q with
    | cons x' r' =>
      rcases h with ⟨h1, a, d, h2, h3, h4⟩ | ⟨h1, v, ws, h2, h3, h4⟩
      · exact .inl ⟨h1, a, d, h2, ih1 _ h3, ih2 _ h4⟩
      · exact .inr ⟨h1, v, ws, h2, ih1 _ h3, ih2 _ h4⟩
    | _ => exact mrg_tt hc _ _ h
  | arrI k n l =>
    intro q ρ m vs h
    cases q with
    | arrI k' n' l' =>
      simp only [PV.mrx, hc, cond_true]
      cases (decide (k = k') && beqN n n') with
      | true => simpa only [cond_true, rel, hc] using h
      | false => exact h
    | _ => exact mrg_tt hc _ _ h
  | arrB n l =>
    intro q ρ m vs h
    cases q with
    | arrB n' l' =>
      simp only [PV.mrx, hc, cond_true]
      cases beqN n n' with
      | true => simpa only [cond_true, rel, hc] using h
      | false => exact h
    | _ => exact mrg_tt hc _ _ h
  | arrS n l =>
    intro q ρ m vs h
    cases q with
    | arrS n' l' =>
      simp only [PV.mrx, hc, cond_true]
      cases beqN n n' with
      | true => simpa only [cond_true, rel, hc] using h
      | false => exact h
    | _ => exact mrg_tt hc _ _ h
  | nils =>
    intro q ρ m vs h
    cases q with
    | slice tok esz len f =>
      cases tok with
      | none =>
        simp only [PV.mrx, hc, cond_true]
        exact ⟨none, 0, 0, h, rfl, Nat.le_refl _, Nat.zero_le _, fun id hid => (by cases hid), fun hn => (by omega)⟩
      | some id => exact mrg_tt hc _ _ h
    | _ => exact mrg_tt hc _ _ h
  | slice tok esz len f ih =>
    intro q ρ m vs h
    cases tok with
    | some id => cases q <;> exact mrg_tt hc _ _ h
    | none =>
      cases q with
      | nils => simp only [PV.mrx, hc, cond_true]; exact h
      | _ => exact mrg_tt hc _ _ h
  | _ => intro q ρ m vs h; cases q <;> exact mrg_tt hc _ _ h

theorem mrx_ff {M : Mem} {c : Unit → Bool} (hc : c () = false) : ∀ (p q : PV) {ρ : Names} {m : Mode} {vs : List Value}, rel M q ρ m vs → rel M (PV.mrx c p q) ρ m vs := by
  intro p
  induction p with
  | tuple l ih =>
    intro q ρ m vs h
    cases q with
    | tuple l' => obtain ⟨h1, ws, h2, h3⟩ := h; exact ⟨h1, ws, h2, ih _ h3⟩
    | _ => exact mrg_ff hc _ _ h
  | agg l ih =>
    intro q ρ m vs h
    cases q with
    | agg l' =>
      rcases h with ⟨h1, h2⟩ | ⟨h1, cs, h2, h3⟩
      · exact .inl ⟨h1, ih _ h2⟩
      · exact .inr ⟨h1, cs, h2, ih _ h3⟩
    | _ => exact mrg_ff hc _ _ h
  | cons x r ih1 ih2 =>
    intro q ρ m vs h
    cases q with
    | cons x' r' =>
      rcases h with ⟨h1, a, d, h2, h3, h4⟩ | ⟨h1, v, ws, h2, h3, h4⟩
      · exact .inl ⟨h1, a, d, h2, ih1 _ h3, ih2 _ h4⟩
      · exact .inr ⟨h1, v, ws, h2, ih1 _ h3, ih2 _ h4⟩
    | _ => exact mrg_ff hc _ _ h
  | arrI k n l =>
    intro q ρ m vs h
    cases q with
    | arrI k' n' l' =>
      simp only [PV.mrx, hc, cond_false]
      cases hb : (decide (k = k') && beqN n n') with
      | true =>
        simp only [Bool.and_eq_true, decide_eq_true_eq, beq_iff_eq] at hb
        obtain ⟨rfl, rfl⟩ := hb
        simpa only [cond_true, cond_false, rel, hc] using h
      | false => exact h
    | _ => exact mrg_ff hc _ _ h
  | arrB n l =>
    intro q ρ m vs h
    cases q with
    | arrB n' l' =>
      simp only [PV.mrx, hc, cond_false]
      cases hb : beqN n n' with
      | true =>
        obtain rfl : n = n' := by simpa using hb
        simpa only [cond_true, cond_false, rel, hc] using h
      | false => exact h
    | _ => exact mrg_ff hc _ _ h
  | arrS n l =>
    intro q ρ m vs h
    cases q with
    | arrS n' l' =>
      simp only [PV.mrx, hc, cond_false]
      cases hb : beqN n n' with
      | true =>
        obtain rfl : n = n' := by simpa using hb
        simpa only [cond_true, cond_false, rel, hc] using h
      | false => exact h
    | _ => exact mrg_ff hc _ _ h
  | nils =>
    intro q ρ m vs h
    cases q with
    | slice tok esz len f =>
      cases tok with
      | none => simp only [PV.mrx, hc, cond_false]; exact h
      | some id => exact mrg_ff hc _ _ h
    | _ => exact mrg_ff hc _ _ h
  | slice tok esz len f ih =>
    intro q ρ m vs h
    cases tok with
    | some id => cases q <;> exact mrg_ff hc _ _ h
    | none =>
      cases q with
      | nils =>
        simp only [PV.mrx, hc, cond_false]
        exact ⟨none, 0, 0, h, rfl, Nat.le_refl _, Nat.zero_le _, fun id hid => (by cases hid), fun hn => (by omega)⟩
      | _ => exact mrg_ff hc _ _ h
  | _ => intro q ρ m vs h; cases q <;> exact mrg_ff hc _ _ h

/-- Conditions of either way. -/
def brC (b : Unit → Bool) : List (Unit → Prop) → List (Unit → Prop) → List (Unit → Prop)
  | [], [] => []
  | C, C' => [fun _ => (b () = true → conds C) ∧ (b () = false → conds C')]
theorem brC_ok {b : Unit → Bool} {C C' : List (Unit → Prop)} (h : conds (brC b C C')) : (b () = true → conds C) ∧ (b () = false → conds C') := by
  cases C with
  | nil => cases C' with
    | nil => exact ⟨fun _ => trivial, fun _ => trivial⟩
    | cons c C' => exact h.1
  | cons c C => exact h.1
/-- A tree's one word. -/
def flat : Tree → Option Res
  | .leaf v _ => bif v.pure then some (v.strip, []) else none
  | .br b t f => match flat t, flat f with
    | some (v, C), some (v', C') => some (PV.mrx b v v', brC b C C')
    | _, _ => none
  | .need C t => match flat t with
    | some (v, C') => some (v, C ++ C')
    | none => none
  | .stuck _ => none

/-- What every path hands back is of the word. -/
def Covers (r : PV) : PV → Store → Prop := fun pv _ => pv.pure = true ∧ ∀ (M : Mem) (m : Mode) (vs : List Value), rel M pv.strip noNames m vs → rel M r noNames m vs
theorem TreeOK.weaken {X : Ctx} {fn : Func} {Q Q' : PV → Store → Prop} (h : ∀ v S, Q v S → Q' v S) (hs : ∀ c, RunC P X fn Q c → RunC P X fn Q' c) : ∀ {t : Tree}, TreeOK P X fn Q t → TreeOK P X fn Q' t
  | .leaf v S, k => h v S k
  | .br b t f, k => ⟨fun e => TreeOK.weaken h hs (k.1 e), fun e => TreeOK.weaken h hs (k.2 e)⟩
  | .need C t, k => ⟨k.1, TreeOK.weaken h hs k.2⟩
  | .stuck c, k => hs c k

def Tree.flatOK (r : PV) : Tree → Prop
  | .leaf v S => Covers r v S
  | .br b t f => (b () = true → Tree.flatOK r t) ∧ (b () = false → Tree.flatOK r f)
  | .need C t => conds C ∧ Tree.flatOK r t
  | .stuck _ => False
theorem Tree.flatOK_mono {r r' : PV} (h : ∀ (M : Mem) (m : Mode) (vs : List Value), rel M r noNames m vs → rel M r' noNames m vs) : ∀ {t : Tree}, t.flatOK r → t.flatOK r'
  | .leaf v S, k => ⟨k.1, fun M m vs hr => h M m vs (k.2 M m vs hr)⟩
  | .br b t f, k => ⟨fun e => Tree.flatOK_mono h (k.1 e), fun e => Tree.flatOK_mono h (k.2 e)⟩
  | .need C t, k => ⟨k.1, Tree.flatOK_mono h k.2⟩
  | .stuck c, k => k.elim
theorem flat_ok : ∀ {t : Tree} {r : PV} {C : List (Unit → Prop)}, flat t = some (r, C) → conds C → t.flatOK r
  | .leaf v S, r, C, h, hC => by
    simp only [flat] at h
    cases hp : v.pure with
    | false => simp [hp] at h
    | true =>
      simp only [hp, cond_true, Option.some.injEq, Prod.mk.injEq] at h
      obtain ⟨rfl, rfl⟩ := h
      exact ⟨hp, fun _ _ _ h => h⟩
  | .br b t f, r, C, h, hC => by
    simp only [flat] at h
    split at h
    · rename_i v C1 v' C2 h1 h2
      simp only [Option.some.injEq, Prod.mk.injEq] at h
      obtain ⟨rfl, rfl⟩ := h
      obtain ⟨k1, k2⟩ := brC_ok hC
      exact ⟨fun e => Tree.flatOK_mono (fun M m vs hr => mrx_tt e _ _ hr) (flat_ok h1 (k1 e)), fun e => Tree.flatOK_mono (fun M m vs hr => mrx_ff e _ _ hr) (flat_ok h2 (k2 e))⟩
    · cases h
  | .need C0 t, r, C, h, hC => by
    simp only [flat] at h
    cases ht : flat t with
    | none => rw [ht] at h; cases h
    | some q =>
      obtain ⟨v, C'⟩ := q
      rw [ht] at h
      simp only [Option.some.injEq, Prod.mk.injEq] at h
      obtain ⟨rfl, rfl⟩ := h
      obtain ⟨k1, k2⟩ := conds_append hC
      exact ⟨k1, flat_ok ht k2⟩
  | .stuck c, r, C, h, hC => by cases h
theorem Tree.flatOK_tree {X : Ctx} {fn : Func} {r : PV} : ∀ {t : Tree}, t.flatOK r → TreeOK P X fn (Covers r) t
  | .leaf v S, k => k
  | .br b t f, k => ⟨fun e => Tree.flatOK_tree (k.1 e), fun e => Tree.flatOK_tree (k.2 e)⟩
  | .need C t, k => ⟨k.1, Tree.flatOK_tree k.2⟩
  | .stuck c, k => k.elim

/-- A function of the table by its text. -/
def auto (X : Ctx) (O : OpX) (c : Code) (m : Nat) (args : PV) : Option Res :=
  bif bleN args.count X.N then flat (explore X O false m ⟨[.code c], Env.enter 0 args, [], 0⟩) else none
def addA (f : Nat) (X : Ctx) (O : OpX) (c : Code) (m : Nat) (F : Table) : Table := addF f (auto X O c m) F
theorem conds_of {C : List (Unit → Prop)} (h : ∀ c ∈ C, c ()) : conds C := by
  induction C with
  | nil => trivial
  | cons c C ih => exact ⟨h c (by simp), ih fun c hc => h c (by simp [hc])⟩
theorem FnOK.auto {X : Ctx} {f : Nat} {fn : Func} {c : Code} (h : FnOK P X f fn c) {O : OpX} (hO : OpXOK P X.G O) {m : Nat} {args r : PV} {C : List (Unit → Prop)} (ha : auto X O c m args = some (r, C)) (hC : conds C) : PFun P X.G f args r := by
  unfold Abs.auto at ha
  cases hb : bleN args.count X.N with
  | false => rw [hb] at ha; cases ha
  | true =>
    rw [hb, cond_true] at ha
    refine ⟨h.callable, fun M w vs hG hI hv => (calls_of_run h.func h.body h.ntmps (by simpa using hb) (by rw [h.n0]; exact Nat.le_refl _) (explore_ok h.ok hO m _ rfl (Tree.flatOK_tree (flat_ok ha hC))) hG hI (fun _ _ => rfl) hv).mono ?_⟩
    rintro e w' ⟨M', ρ', v, pv, S', a', rfl, h1, h2, h3, h4⟩
    exact ⟨M', ρ', v, S', a', rfl, by rw [h.n0] at h1; exact h1, h4 _ _ _ (strip_rel _ h3 h2)⟩
theorem addA_ok {X : Ctx} {f : Nat} {fn : Func} {c : Code} (h : FnOK P X f fn c) {O : OpX} (hO : OpXOK P X.G O) {m : Nat} {F : Table} (hF : TableOK P X.G F) : TableOK P X.G (addA f X O c m F) :=
  addF_ok (fun _ _ _ ha hC => h.auto hO ha (conds_of hC)) hF
end Go.Abs
/- LOOPS: the invariant, its beginning and its way back in one rule. -/
set_option linter.unusedVariables false
set_option linter.unusedSimpArgs false
namespace Go.Abs
variable {P : Program}

theorem cast_fold (n : Nat) : @NatCast.natCast Int instNatCastInt n = @Nat.cast Int instNatCastInt n := rfl
theorem impP_refl : ∀ p : PV, impP p p := by
  intro p
  induction p with
  | slice tok esz len f ih => exact ⟨.inr rfl, rfl, rfl, fun j _ _ => ih _⟩
  | agg l ih => exact ih
  | tuple l ih => exact ih
  | cons x r ih1 ih2 => exact ⟨ih1, ih2⟩
  | int k n => exact ⟨rfl, rfl⟩
  | arrI k n l => exact ⟨rfl, rfl, rfl⟩
  | arrB n l => exact ⟨rfl, rfl⟩
  | arrS n l => exact ⟨rfl, rfl⟩
  | _ => exact rfl
/-- What a move asks of the slots, the objects and the names, and can be computed. -/
def mvOK (σ : Nat → Nat) (n0 n : Nat) (A : Env) (S : Store) : Bool := belowA n A && belowS n S && bleN n0 n && idS σ n0 && injS σ S
theorem run_mv {X : Ctx} {fn : Func} {Q : PV → Store → Prop} {k : List It} (σ : Nat → Nat) {A A' : Env} {S S' : Store} {n n' : Nat} (hk : plainK k = true) (h : RunC P X fn Q ⟨k, A, S, n⟩) (hc : mvOK σ X.n0 n A S = true) (hAe : impA σ A' A) (hSe : impS σ S' S) : RunC P X fn Q ⟨k, A', S', n'⟩ := by
  simp only [mvOK, Bool.and_eq_true] at hc
  exact run_move σ hk h hc.1.1.1.1 hc.1.1.1.2 hc.1.1.2 hc.1.2 hc.2 hAe hSe

/-- A loop: its invariant's slots and objects 'A i', 'S i', 'n' names in all. -/
theorem run_inv {X : Ctx} {fn : Func} {Q : PV → Store → Prop} {c : Code} {k : List It} {ι : Type} (μ : ι → Nat) (I : ι → Prop) (A : ι → Env) (S : ι → Store) (n : Nat) (i0 : ι) (σ0 : Nat → Nat) {A' : Env} {S' : Store} {n' : Nat} (hk : plainK k = true)
    (hc : mvOK σ0 X.n0 n (A i0) (S i0) = true) (h0 : I i0)
    (h : ∀ i, I i → (∀ (j : ι) (σ : Nat → Nat) {A1 : Env} {S1 : Store} {n1 : Nat}, I j → μ j < μ i → mvOK σ X.n0 n (A j) (S j) = true → impA σ A1 (A j) → impS σ S1 (S j) → RunC P X fn Q ⟨.inLoop c :: k, A1, S1, n1⟩) → RunC P X fn Q ⟨.code c :: .inLoop c :: k, A i, S i, n⟩)
    (hAe : impA σ0 A' (A i0)) (hSe : impS σ0 S' (S i0)) : RunC P X fn Q ⟨.inLoop c :: k, A', S', n'⟩ := by
  have hk' : plainK (.inLoop c :: k) = true := hk
  refine run_mv σ0 hk' (run_loop μ A S n I hk ?_ i0 h0) hc hAe hSe
  intro i hi ih
  exact h i hi fun j σ A1 S1 n1 hj hlt hm hA hS => run_mv σ hk' (ih j hj hlt) hm hA hS
end Go.Abs
/- A FUNCTION KNOWN BY A CONTRACT: what it does below the heap's end is nothing. -/
set_option linter.unusedVariables false
set_option linter.unusedSimpArgs false
namespace Go.Abs
variable {P : Program} {G : Nat → PV}

theorem PFun.of_below {f : Nat} {args r : PV} (hc : Callable P f)
    (h : ∀ (M : Mem) (w : World) (vs : List Value), GOK G M → Inv M noNames none0 w → rel M args noNames .vals vs → Calls P f vs.toArray w fun e w' => ∃ v, e = .returned v ∧ RowKit.Below w.heap.size w w' ∧ rel M r noNames .val [v]) : PFun P G f args r := by
  refine ⟨hc, fun M w vs hG hI hr => (h M w vs hG hI hr).mono ?_⟩
  rintro e w' ⟨v, rfl, hb, hv⟩
  refine ⟨M, noNames, v, [], { tmps := #[], defers := [] }, rfl, ⟨⟨fun b i v hm => ?_, fun id o ho => by simp [Store.get] at ho, fun id id' o o' ho => by simp [Store.get] at ho⟩, rfl, Mem.le_refl _, fun _ _ => rfl, hb.os, hb.tape, hb.output, hb.size, fun b hlt _ => hb.block b hlt, fun b ho => .inr ho, fun b i h1 h2 => absurd h2 h1⟩, hv⟩
  have h1 := hI.mem b i v hm
  rw [cell_of_heap (hb.block b (cell_lt h1))]; exact h1

/-- One of two values of one shape, and what it is. -/
theorem mrg_mk {c : Unit → Bool} : ∀ (a : Sh) (s t : Unit → a.val), impP (PV.mrg c (a.mk s) (a.mk t)) (a.mk fun _ => bif c () then s () else t ()) := by
  intro a
  induction a with
  | int k =>
    intro s t
    simp only [Sh.mk, PV.mrg, decide_true, cond_true]
    exact ⟨rfl, rfl⟩
  | bool => intro s t; exact rfl
  | str => intro s t; exact rfl
  | arrI k n => intro s t; simp only [Sh.mk, PV.mrg]; cases h : c () <;> simp only [cond_true, cond_false] <;> exact impP_refl _
  | arrB n => intro s t; simp only [Sh.mk, PV.mrg]; cases h : c () <;> simp only [cond_true, cond_false] <;> exact impP_refl _
  | arrS n => intro s t; simp only [Sh.mk, PV.mrg]; cases h : c () <;> simp only [cond_true, cond_false] <;> exact impP_refl _
  | nil => intro s t; exact rfl
  | cons a b iha ihb =>
    intro s t
    have h1 := iha (fun _ => (s ()).1) (fun _ => (t ()).1)
    have h2 := ihb (fun _ => (s ()).2) (fun _ => (t ()).2)
    refine ⟨?_, ?_⟩
    · have e : (fun _ : Unit => (bif c () then s () else t ()).1) = fun _ => bif c () then (s ()).1 else (t ()).1 := by funext u; cases c () <;> rfl
      show impP _ (a.mk fun _ => (bif c () then s () else t ()).1)
      rw [e]; exact h1
    · have e : (fun _ : Unit => (bif c () then s () else t ()).2) = fun _ => bif c () then (s ()).2 else (t ()).2 := by funext u; cases c () <;> rfl
      show impP _ (b.mk fun _ => (bif c () then s () else t ()).2)
      rw [e]; exact h2
  | agg a ih => intro s t; exact ih s t
  | fn f => intro s t; simp only [Sh.mk, PV.mrg]; cases c () <;> exact rfl
  | eptr esz a ih => intro s t; simp only [Sh.mk, PV.mrg]; cases c () <;> exact rfl
  | fnv f a ih => intro s t; simp only [Sh.mk, PV.mrg]; cases c () <;> exact rfl
  | slice esz a ih =>
    intro s t
    simp only [Sh.mk, PV.mrg, beq_self_eq_true, cond_true]
    refine ⟨.inl rfl, rfl, ?_, fun j _ _ => ?_⟩
    · cases h : c () <;> simp only [cond_true, cond_false]
    · have := ih (fun _ => List.getD (α := a.val) (s ()) j.toNat a.dflt) (fun _ => List.getD (α := a.val) (t ()) j.toNat a.dflt)
      cases h : c ()
      · simp only [h, cond_false] at this ⊢; exact this
      · simp only [h, cond_true] at this ⊢; exact this
theorem impP_trans_eq {p q r : PV} (h : impP p q) (e : q = r) : impP p r := e ▸ h
/-- A list with one value more. -/
theorem push_imp (a : Sh) (tok : Option Nat) (esz : Nat) (ws : List a.val) (t : a.val) :
    impP (.slice tok esz (fun _ => (ws.length : Int) + 1) fun j => PV.mrg (fun _ => decide (j () < (ws.length : Int))) (a.mk fun _ => ws.getD (j ()).toNat a.dflt) (a.mk fun _ => t))
      (.slice tok esz (fun _ => ((ws ++ [t]).length : Int)) fun j => a.mk fun _ => (ws ++ [t]).getD (j ()).toNat a.dflt) := by
  refine ⟨.inr rfl, rfl, by simp, fun j h0 h1 => impP_trans_eq (mrg_mk a _ _) (congrArg a.mk (funext fun _ => ?_))⟩
  have h1 : j < (ws.length : Int) + 1 := h1
  show (bif decide (j < (ws.length : Int)) then ws.getD j.toNat a.dflt else t) = (ws ++ [t]).getD j.toNat a.dflt
  rw [List.getD_eq_getElem?_getD, List.getD_eq_getElem?_getD]
  by_cases h : j < (ws.length : Int)
  · rw [List.getElem?_append_left (by omega)]; simp [h]
  · rw [List.getElem?_append_right (by omega), show j.toNat - ws.length = 0 by omega]; simp [h]

theorem rdL_ext {α : Type} (r : PV → α) (len : Unit → Int) (f : (Unit → Int) → PV) (l : List α) (hl : len () = (l.length : Int)) (h : ∀ (i : Nat) (hi : i < l.length), r (f fun _ => (i : Int)) = l[i]) : rdL r len f = l := by
  apply List.ext_getElem
  · rw [rdL_len, hl]; rfl
  · intro i h1 h2
    rw [← h i h2]
    simp [rdL]
theorem rd_mk : ∀ (a : Sh) (t : Unit → a.val), a.rd (a.mk t) = t () := by
  intro a
  induction a with
  | cons a b iha ihb => intro t; exact Prod.ext (iha _) (ihb _)
  | agg a ih => intro t; exact ih t
  | eptr esz a ih => intro t; exact ih t
  | fnv f a ih => intro t; exact ih t
  | slice esz a ih =>
    intro t
    refine rdL_ext a.rd _ _ (t () : List a.val) rfl fun i hi => ?_
    refine (ih _).trans ?_
    have e : ∀ (l : List a.val) (h : i < l.length), l.getD i a.dflt = l[i] := fun l h => by rw [List.getD_eq_getElem?_getD, List.getElem?_eq_getElem h]; rfl
    exact e (t ()) hi
  | nil => intro t; rfl
  | fn f => intro t; rfl
  | _ => intro t; rfl
theorem fits_of_mk : ∀ (a : Sh) (t : Unit → a.val), a.fits (a.mk t) := by
  intro a
  induction a with
  | cons a b iha ihb => intro t; exact ⟨iha _, ihb _⟩
  | agg a ih => intro t; exact ih t
  | eptr esz a ih => intro t; exact ⟨rfl, rfl, ih t⟩
  | fnv f a ih => intro t; exact ⟨rfl, ih t⟩
  | slice esz a ih => intro t; exact ⟨rfl, fun j => ih _⟩
  | int k => intro t; exact rfl
  | arrI k n => intro t; exact ⟨rfl, rfl⟩
  | arrB n => intro t; exact rfl
  | arrS n => intro t; exact rfl
  | fn f => intro t; exact rfl
  | bool => intro t; exact trivial
  | str => intro t; exact trivial
  | nil => intro t; exact trivial
theorem rdL_mkL (a : Sh) (ws : List a.val) : rdL a.rd (fun _ => (ws.length : Int)) (fun j => a.mk fun _ => ws.getD (j ()).toNat a.dflt) = ws := rd_mk (.slice 0 a) fun _ => ws
theorem rdL_str (ws : List ByteArray) : rdL (α := ByteArray) Sh.str.rd (fun _ => (ws.length : Int)) (fun j => .str fun _ => ws.getD (j ()).toNat ByteArray.empty) = ws := rdL_mkL .str ws
theorem rdL_int (k : IntKind) (ws : List Int) : rdL (α := Int) (Sh.int k).rd (fun _ => (ws.length : Int)) (fun j => .int k fun _ => ws.getD (j ()).toNat 0) = ws := rdL_mkL (.int k) ws
end Go.Abs
/- A SLICE BUILT of several parts. -/
set_option linter.unusedVariables false
set_option linter.unusedSimpArgs false
namespace Go.Abs
variable {P : Program} {G : Nat → PV}

/-- Which of them, by a number that is known at run time. -/
def sel : Nat → List PV → (Unit → Int) → PV
  | _, [], _ => .undef
  | _, [x], _ => x
  | i, x :: r, j => PV.mrx (fun _ => decide (j () = (i : Int))) x (sel (i + 1) r j)
theorem sel_rel {M : Mem} {ρ : Names} {m : Mode} {vs : List Value} : ∀ (l : List PV) (i k : Nat) (x : PV), l[k]? = some x → rel M x ρ m vs → rel M (sel i l fun _ => ((i + k : Nat) : Int)) ρ m vs
  | [], i, k, x, h, _ => by simp at h
  | [y], i, k, x, h, hr => by
    cases k with
    | zero => simp only [List.getElem?_cons_zero, Option.some.injEq] at h; subst h; exact hr
    | succ k => simp at h
  | y :: z :: r, i, k, x, h, hr => by
    cases k with
    | zero =>
      simp only [List.getElem?_cons_zero, Option.some.injEq] at h; subst h
      exact mrx_tt (by simp) _ _ hr
    | succ k =>
      have := sel_rel (z :: r) (i + 1) k x (by simpa using h) hr
      rw [show i + 1 + k = i + (k + 1) by omega] at this
      exact mrx_ff (by simp; omega) _ _ this

/-- Are they the parts, one behind the other? -/
def partsOK (e : Operand → PV) (z : PV) : Nat → List (Nat × Operand) → Bool
  | _, [] => true
  | a, (i, x) :: r => beqN i a && (sameShape (e x) z && (e x).pure) && partsOK e z (a + 1) r
def buildX (T : Nat → Option TI) : OpX := fun e g n op => match op with
  | .buildSlice t k parts => match T t with
    | some ⟨.slice el, _, _, _⟩ => match T el with
      | some i => bif partsOK e i.zero 0 parts.toList && beqN parts.size k && bltN 0 k && bltN 0 i.size && bleN (k * i.size) 16777216 then
          some { v := .slice none i.size (fun _ => (k : Int)) (sel 0 (parts.toList.map fun p => (e p.2).strip)), n } else none
      | none => none
    | _ => none
  | _ => none

theorem fill_parts {size : Nat} : ∀ (l : List (Nat × Value)) (a : Nat) (base : List Value), (∀ j x, l[j]? = some x → x.1 = a + j ∧ x.2.cells.size = size) → base.length = (a + l.length) * size →
    Instr.fill (fun j => some (j * size, size)) base.toArray l = some (base.take (a * size) ++ (l.map fun x => x.2.cells.toList).flatten).toArray
  | [], a, base, _, hb => by
    simp only [Instr.fill, List.map_nil, List.flatten_nil, List.append_nil]
    rw [List.take_of_length_le]
    simp at hb; omega
  | (i, v) :: r, a, base, h, hb => by
    obtain ⟨h1, h2⟩ := h 0 (i, v) rfl
    have h1 : i = a := h1
    subst h1
    have hle : (i + 1) * size ≤ (i + (r.length + 1)) * size := Nat.mul_le_mul_right _ (by omega)
    have e1 : (i + 1) * size = i * size + size := by rw [Nat.add_mul, Nat.one_mul]
    simp only [List.length_cons] at hb
    simp only [Instr.fill]
    rw [if_neg (by simp [h2]; omega)]
    have hl : v.cells.toList.length = size := by simpa using h2
    rw [fold_splice base (i * size) v.cells (by omega)]
    rw [fill_parts r (i + 1) (splice base (i * size) v.cells.toList) (fun j x hx => ?_) (by rw [splice_length (by omega), hb]; congr 1; omega)]
    · congr 2
      unfold splice
      rw [List.map_cons, List.flatten_cons, e1, hl, ← List.append_assoc]
      congr 1
      rw [List.append_assoc, List.take_append, List.take_take]
      have e2 : (base.take (i * size)).length = i * size := by rw [List.length_take]; omega
      rw [e2, Nat.min_eq_right (by omega), show i * size + size - i * size = size by omega]
      congr 1
      rw [List.take_append, hl, Nat.sub_self, List.take_zero, List.append_nil, List.take_of_length_le (by omega)]
    · have := h (j + 1) x (by simpa using hx)
      exact ⟨by have := this.1; omega, this.2⟩

theorem flatten_get {size : Nat} : ∀ (l : List (List Value)) (k q : Nat) (c : List Value), (∀ x ∈ l, x.length = size) → l[k]? = some c → q < size → l.flatten[k * size + q]? = c[q]?
  | [], k, q, c, _, h, _ => by simp at h
  | x :: r, k, q, c, hl, h, hq => by
    have hx := hl x (by simp)
    rw [List.flatten_cons]
    cases k with
    | zero =>
      simp only [List.getElem?_cons_zero, Option.some.injEq] at h
      subst h
      rw [Nat.zero_mul, Nat.zero_add, List.getElem?_append_left (by omega)]
    | succ k =>
      rw [List.getElem?_append_right (by rw [Nat.add_mul]; omega), hx, show (k + 1) * size + q - size = k * size + q by rw [Nat.add_mul]; omega]
      exact flatten_get r k q c (fun y hy => hl y (by simp [hy])) (by simpa using h) hq

theorem partsOK_get {e : Operand → PV} {z : PV} : ∀ {l : List (Nat × Operand)} {a : Nat}, partsOK e z a l = true → ∀ j x, l[j]? = some x → x.1 = a + j ∧ sameShape (e x.2) z = true ∧ (e x.2).pure = true
  | [], _, _, j, x, h => by simp at h
  | (i, y) :: r, a, h, j, x, hx => by
    simp only [partsOK, Bool.and_eq_true, beq_iff_eq] at h
    cases j with
    | zero =>
      simp only [List.getElem?_cons_zero, Option.some.injEq] at hx
      subst hx
      exact ⟨h.1.1, h.1.2⟩
    | succ j =>
      have := partsOK_get h.2 j x (by simpa using hx)
      exact ⟨by have := this.1; omega, this.2⟩

theorem buildX_ok {T : Nat → Option TI} (hT : TT P T) : OpXOK P G (buildX T) := by
  intro e g n op E h
  unfold buildX at h
  split at h
  · rename_i t k parts
    split at h
    · rename_i el sz by_ z ht
      have hi := hT _ _ ht
      have hu : P.underlying t = some (.slice el) := hi.desc
      cases he : T el with
      | none => simp [he] at h
      | some i =>
        have hie := hT el i he
        rw [he] at h
        simp only at h
        cases hc : (partsOK e i.zero 0 parts.toList && beqN parts.size k && bltN 0 k && bltN 0 i.size && bleN (k * i.size) 16777216) with
        | false => rw [hc] at h; cases h
        | true =>
          simp only [hc, cond_true, Option.some.injEq] at h
          subst h
          simp only [Bool.and_eq_true, decide_eq_true_eq, beq_iff_eq] at hc
          obtain ⟨⟨⟨⟨hp, hk⟩, hk0⟩, hs0⟩, hsz⟩ := hc
          have hk : parts.toList.length = k := by simpa using hk
          refine ⟨Nat.le_refl _, fun y hy => (by cases hy), fun o M ρ w ev ho hev hI hfree hr hC hG => ?_⟩
          have hpos : k * i.size ≠ 0 := by have := Nat.mul_pos hk0 hs0; omega
          have hpart : ∀ (j : Nat) (x : Nat × Operand), parts.toList[j]? = some x → x.1 = j ∧ (e x.2).pure = true ∧ rel M (e x.2) ρ .cells (ev x.2).cells.toList ∧ (ev x.2).cells.size = i.size := by
            intro j x hx
            obtain ⟨h1, h2, h3⟩ := partsOK_get hp j x hx
            have hwl := sameShape_wide h2 hie.wide
            have hwl' : (e x.2).wide = true ∨ (e x.2).leaf = true := by rw [hwl.1, hwl.2]; exact hie.wide
            have hxo := hr x.2 (by
              simp only [Op.operands, List.mem_map]
              exact ⟨x, List.mem_of_getElem? hx, rfl⟩)
            have hx := rel_cells hwl' hxo
            have hlen := rel_size _ hx
            refine ⟨by omega, h3, hx, ?_⟩
            rw [hie.size, ← sameShape_size h2, ← hlen]; simp
          obtain ⟨z1, hz1, hz2⟩ := run_zero hie w
          let cs : List (List Value) := parts.toList.map fun x => (ev x.2).cells.toList
          have hcs : ∀ c ∈ cs, c.length = i.size := by
            intro c hc
            obtain ⟨x, hx, rfl⟩ := List.mem_map.1 hc
            obtain ⟨j, hj⟩ := List.getElem?_of_mem hx
            simpa using (hpart j x hj).2.2.2
          have hpl : (parts.map fun (i, x) => (i, ev x)).toList = parts.toList.map fun x => (x.1, ev x.2) := by rw [Array.toList_map]
          have hfill : ∀ base : Array Value, base.size = k * i.size → Instr.fill (fun j => some (j * i.size, i.size)) base (parts.toList.map fun x => (x.1, ev x.2)) = some cs.flatten.toArray := by
            intro base hb
            have := fill_parts (size := i.size) (parts.toList.map fun x => (x.1, ev x.2)) 0 base.toList (fun j x hx => by
              rw [List.getElem?_map, Option.map_eq_some_iff] at hx
              obtain ⟨y, hy, rfl⟩ := hx
              have := hpart j y hy
              exact ⟨by have := this.1; simp only; omega, this.2.2.2⟩) (by rw [List.length_map, hk, Nat.zero_add]; simpa using hb)
            rw [show base = base.toList.toArray from rfl, this, Nat.zero_mul, List.take_zero, List.nil_append, List.map_map]
            rfl
          have hrun : (Instr.buildSlice t k (parts.map fun (i, x) => (i, ev x))).run P w = .ok (.slice (some ⟨w.heap.size, 0, none⟩) k k) (w.alloc (.cells cs.flatten.toArray el)) := by
            simp only [Instr.buildSlice, Sem.run_bind, run_underlying hu, Result.andThen_ok, run_sizeOf' hie]
            rw [if_neg (by omega), if_neg hpos]
            simp only [Sem.run_bind, hz1, Result.andThen_ok, Sem.run_pure, hpl]
            rw [hfill _ (by simp)]
            rfl
          unfold OpR
          simp only [execOp, ho, Sem.run_bind, hrun, Result.andThen_ok, Sem.run_pure]
          obtain ⟨r1, r2⟩ := new_row (n := n) hI cs.flatten cs.flatten (fun _ _ h => h) el
          refine ⟨_, ρ, r1, r2, ?_⟩
          have hkm : k ≤ maxLen := by
            have : k * 1 ≤ k * i.size := Nat.mul_le_mul_left _ hs0
            have hsz : k * i.size ≤ 16777216 := hsz
            simp only [maxLen]; omega
          refine ⟨_, _, _, ⟨by simp, rfl⟩, rfl, Nat.le_refl _, hkm, fun id h => (by cases h), fun _ => ⟨w.heap.size, 0, rfl, fun j hj => ?_⟩⟩
          obtain ⟨x, hx⟩ : ∃ x, parts.toList[j]? = some x := ⟨parts.toList[j]'(by omega), List.getElem?_eq_getElem (by omega)⟩
          obtain ⟨_, q1, q2, q3⟩ := hpart j x hx
          refine ⟨(ev x.2).cells.toList, by simpa using q3, ?_, fun q hq => ?_⟩
          · have := sel_rel (M := addRow M w.heap.size cs.flatten) (ρ := fun _ => none) (m := .cells) (vs := (ev x.2).cells.toList) (parts.toList.map fun p => (e p.2).strip) 0 j ((e x.2).strip) (by rw [List.getElem?_map, hx]; rfl) (rel_mono r1.mem _ (Names.le_refl _) (strip_rel _ q1 q2))
            rwa [Nat.zero_add] at this
          · have := flatten_get cs j q (ev x.2).cells.toList hcs (by show (parts.toList.map _)[j]? = _; rw [List.getElem?_map, hx]; rfl) hq
            simp only [addRow, if_pos]
            rw [Nat.zero_add]
            exact this
    · cases h
  · cases h
end Go.Abs
/- SETS AS FOUR WORDS: plain facts. -/
set_option linter.unusedVariables false
set_option linter.unusedSimpArgs false
namespace Go.Abs

/-- The number whose lowest bits are as told. -/
def wd (p : Nat → Bool) : Nat → Nat
  | 0 => 0
  | n + 1 => wd p n + (if p n then 2 ^ n else 0)
theorem wd_lt (p : Nat → Bool) : ∀ n, wd p n < 2 ^ n
  | 0 => by simp [wd]
  | n + 1 => by
    have := wd_lt p n
    simp only [wd, Nat.pow_succ]
    split <;> omega
theorem wd_bit (p : Nat → Bool) : ∀ n i, (wd p n).testBit i = (decide (i < n) && p i)
  | 0, i => by simp [wd]
  | n + 1, i => by
    have hlt := wd_lt p n
    have ih := wd_bit p n i
    simp only [wd]
    by_cases hp : p n = true
    · rw [if_pos hp, Nat.add_comm]
      by_cases hi : i = n
      · subst hi
        rw [Nat.testBit_two_pow_add_eq, ih]
        simp [hp]
      · by_cases hl : i < n
        · rw [Nat.testBit_two_pow_add_gt hl, ih]
          simp [hl, show i < n + 1 by omega]
        · rw [Nat.testBit_lt_two_pow]
          · simp [show ¬ i < n + 1 by omega]
          · calc 2 ^ n + wd p n < 2 ^ n + 2 ^ n := by omega
              _ = 2 ^ (n + 1) := by rw [Nat.pow_succ]; omega
              _ ≤ 2 ^ i := Nat.pow_le_pow_right (by omega) (by omega)
    · rw [if_neg hp, Nat.add_zero, ih]
      by_cases hi : i = n
      · subst hi; simp [hp]
      · have : (i < n) ↔ (i < n + 1) := by omega
        simp [this]
theorem wd_ext {p q : Nat → Bool} {n : Nat} (h : ∀ i, i < n → p i = q i) : wd p n = wd q n := by
  apply Nat.eq_of_testBit_eq
  intro i
  rw [wd_bit, wd_bit]
  by_cases hi : i < n
  · simp [hi, h i hi]
  · simp [hi]
theorem wd_self {u n : Nat} (h : u < 2 ^ n) : wd u.testBit n = u := by
  apply Nat.eq_of_testBit_eq
  intro i
  rw [wd_bit]
  by_cases hi : i < n
  · simp [hi]
  · rw [Nat.testBit_lt_two_pow (Nat.lt_of_lt_of_le h (Nat.pow_le_pow_right (by omega) (by omega)))]
    simp [hi]

/-! ### Operations of the machine on words -/
theorem u64_wrap {n : Nat} (h : n < 2 ^ 64) : IntKind.u64.wrap (n : Int) = n := IntWalk.u64_in _ ⟨by omega, by omega⟩
theorem ofInt_nat (n : Nat) : BitVec.ofInt 64 (n : Int) = BitVec.ofNat 64 n := by
  apply BitVec.eq_of_toNat_eq
  simp
theorem and_nat {a b : Nat} (ha : a < 2 ^ 64) (hb : b < 2 ^ 64) : bitAnd .u64 (a : Int) (b : Int) = ((a &&& b : Nat) : Int) := by
  show IntKind.u64.wrap ((BitVec.ofInt 64 (a : Int) &&& BitVec.ofInt 64 (b : Int)).toNat : Int) = _
  rw [ofInt_nat, ofInt_nat, BitVec.toNat_and, BitVec.toNat_ofNat, BitVec.toNat_ofNat, Nat.mod_eq_of_lt ha, Nat.mod_eq_of_lt hb, u64_wrap (Nat.and_lt_two_pow _ hb)]
theorem or_nat {a b : Nat} (ha : a < 2 ^ 64) (hb : b < 2 ^ 64) : bitOr .u64 (a : Int) (b : Int) = ((a ||| b : Nat) : Int) := by
  show IntKind.u64.wrap ((BitVec.ofInt 64 (a : Int) ||| BitVec.ofInt 64 (b : Int)).toNat : Int) = _
  rw [ofInt_nat, ofInt_nat, BitVec.toNat_or, BitVec.toNat_ofNat, BitVec.toNat_ofNat, Nat.mod_eq_of_lt ha, Nat.mod_eq_of_lt hb, u64_wrap (Nat.or_lt_two_pow ha hb)]
theorem andNot_nat {a b : Nat} (ha : a < 2 ^ 64) (hb : b < 2 ^ 64) : bitAndNot .u64 (a : Int) (b : Int) = ((wd (fun i => a.testBit i && !b.testBit i) 64 : Nat) : Int) := by
  show IntKind.u64.wrap ((BitVec.ofInt 64 (a : Int) &&& ~~~BitVec.ofInt 64 (b : Int)).toNat : Int) = _
  rw [ofInt_nat, ofInt_nat, u64_wrap (BitVec.isLt _)]
  congr 1
  apply Nat.eq_of_testBit_eq
  intro i
  rw [wd_bit, ← BitVec.getLsbD, BitVec.getLsbD_and, BitVec.getLsbD_not, BitVec.getLsbD_ofNat, BitVec.getLsbD_ofNat]
  by_cases hi : i < 64 <;> simp [hi]

/-! ### Sets -/
def W (p : Nat → Bool) (w : Nat) : Int := ((wd (fun i => p (64 * w + i)) 64 : Nat) : Int)
/-- The four words of a set. -/
def setOf (p : Nat → Bool) : List Int := [W p 0, W p 1, W p 2, W p 3]
def bitAt (l : List Int) (i : Nat) : Bool := (l.getD (i / 64) 0).toNat.testBit (i % 64)
def okSet (l : List Int) : Prop := l.length = 4 ∧ ∀ i, i < 4 → 0 ≤ l.getD i 0 ∧ l.getD i 0 < 18446744073709551616
theorem W_range (p : Nat → Bool) (w : Nat) : 0 ≤ W p w ∧ W p w < 18446744073709551616 := by
  have := wd_lt (fun i => p (64 * w + i)) 64
  unfold W
  omega
theorem W_ext {p q : Nat → Bool} {w : Nat} (h : ∀ i, 64 * w ≤ i → i < 64 * w + 64 → p i = q i) : W p w = W q w := by
  unfold W
  rw [wd_ext fun i hi => h (64 * w + i) (by omega) (by omega)]
theorem setOf_len (p : Nat → Bool) : (setOf p).length = 4 := rfl
theorem setOf_get {p : Nat → Bool} {w : Nat} (h : w < 4) : (setOf p).getD w 0 = W p w := by
  have : w = 0 ∨ w = 1 ∨ w = 2 ∨ w = 3 := by omega
  rcases this with rfl | rfl | rfl | rfl <;> rfl
theorem okSet_setOf (p : Nat → Bool) : okSet (setOf p) := ⟨rfl, fun i hi => by rw [setOf_get hi]; exact W_range p i⟩
theorem bitAt_setOf {p : Nat → Bool} {i : Nat} (h : i < 256) : bitAt (setOf p) i = p i := by
  unfold bitAt
  rw [setOf_get (by omega)]
  simp only [W, Int.toNat_natCast, wd_bit]
  rw [show 64 * (i / 64) + i % 64 = i by omega]
  simp [Nat.mod_lt]
theorem setOf_ext {p q : Nat → Bool} (h : ∀ i, i < 256 → p i = q i) : setOf p = setOf q := by
  unfold setOf
  rw [W_ext (w := 0) fun i _ hi => h i (by omega), W_ext (w := 1) fun i _ hi => h i (by omega), W_ext (w := 2) fun i _ hi => h i (by omega), W_ext (w := 3) fun i _ hi => h i (by omega)]
theorem setOf_inj {p q : Nat → Bool} : setOf p = setOf q ↔ ∀ i, i < 256 → p i = q i :=
  ⟨fun h i hi => by rw [← bitAt_setOf (p := p) hi, h, bitAt_setOf hi], setOf_ext⟩
theorem word_bits {l : List Int} (h : okSet l) {w : Nat} (hw : w < 4) : W (bitAt l) w = l.getD w 0 := by
  obtain ⟨h0, h1⟩ := h.2 w hw
  have : W (bitAt l) w = ((wd ((l.getD w 0).toNat.testBit) 64 : Nat) : Int) := by
    unfold W
    rw [wd_ext fun i hi => ?_]
    unfold bitAt
    rw [show (64 * w + i) / 64 = w by omega, show (64 * w + i) % 64 = i by omega]
  rw [this, wd_self (by omega)]
  omega
theorem set_four {l : List Int} (h : l.length = 4) : l = [l.getD 0 0, l.getD 1 0, l.getD 2 0, l.getD 3 0] := by
  match l, h with
  | [x, y, z, w], _ => rfl
theorem setOf_bitAt {l : List Int} (h : okSet l) : setOf (bitAt l) = l := by
  unfold setOf
  rw [word_bits h (by omega), word_bits h (by omega), word_bits h (by omega), word_bits h (by omega), ← set_four h.1]
theorem okSet_eq {l : List Int} (h : okSet l) : ∃ p, l = setOf p := ⟨bitAt l, (setOf_bitAt h).symm⟩
theorem W_nat (p : Nat → Bool) (w : Nat) : wd (fun i => p (64 * w + i)) 64 < 2 ^ 64 := wd_lt _ _
theorem W_and (p q : Nat → Bool) (w : Nat) : bitAnd .u64 (W p w) (W q w) = W (fun i => p i && q i) w := by
  unfold W
  rw [and_nat (W_nat p w) (W_nat q w)]
  congr 1
  apply Nat.eq_of_testBit_eq
  intro i
  rw [Nat.testBit_and, wd_bit, wd_bit, wd_bit]
  cases decide (i < 64) <;> simp
theorem W_or (p q : Nat → Bool) (w : Nat) : bitOr .u64 (W p w) (W q w) = W (fun i => p i || q i) w := by
  unfold W
  rw [or_nat (W_nat p w) (W_nat q w)]
  congr 1
  apply Nat.eq_of_testBit_eq
  intro i
  rw [Nat.testBit_or, wd_bit, wd_bit, wd_bit]
  cases decide (i < 64) <;> simp
theorem W_andNot (p q : Nat → Bool) (w : Nat) : bitAndNot .u64 (W p w) (W q w) = W (fun i => p i && !q i) w := by
  unfold W
  rw [andNot_nat (W_nat p w) (W_nat q w)]
  congr 1
  apply wd_ext
  intro i hi
  rw [wd_bit, wd_bit]
  simp [hi]
theorem W_zero (w : Nat) : W (fun _ => false) w = 0 := by
  unfold W
  have : wd (fun _ => false) 64 = 0 := by
    apply Nat.eq_of_testBit_eq
    intro i
    rw [wd_bit]; simp
  rw [this]; rfl
theorem setOf_zero : setOf (fun _ => false) = [0, 0, 0, 0] := by
  unfold setOf
  simp only [W_zero]
end Go.Abs
