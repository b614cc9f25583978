/- A part of what the walks of this claim stand on. -/
import Derived.Test.YtpbjcabecalpaaaGreatDoorGaa
import Derived.OrdersIn
import Derived.RangeFuncLeaves
import Derived.RangeFuncNested
import Derived.Laws.AppendOwn
set_option maxRecDepth 2000
set_option linter.unusedVariables false
set_option linter.unusedSimpArgs false
namespace Go.Abs
variable {P : Program}
def dstOf (ops : Array Oper) (j : Nat) : Option Nat := (ops[j]?).bind (·.dst)
def valOf : Option Eff -> PV
 | none => .tuple .nil
 | some E => E.v
def wv : List (Nat × Option SObj) -> Nat -> Option (Option SObj)
 | [], _ => none
 | (i, o) :: r, id => match wv r id with
   | some x => some x
   | none => if id = i then some o else none
theorem updW_wv : ∀ (W : List (Nat × Option SObj)) (g : Sto) (id : Nat), updW g W id = (wv W id).getD (g id)
 | [], g, id => rfl
 | (i, o) :: r, g, id => by
   rw [updW, updW_wv r, wv]
   cases h : wv r id with
   | some x => rfl
   | none => by_cases hi : id = i <;> simp [hi]
theorem wv_none {W : List (Nat × Option SObj)} {id : Nat} (h : ∀ x ∈ W, x.1 ≠ id) : wv W id = none := by
 induction W with
 | nil => rfl
 | cons x W ih =>
   obtain ⟨i, o⟩ := x
   rw [wv, ih (fun y hy => h y (by simp [hy]))]
   have := h (i, o) (by simp)
   simp only [if_neg (fun e => this (Eq.symm e))]
section
variable (ops : Array Oper) (A0 : Nat -> PV) (g0 : Sto) (ef : Nat -> Option Eff) (L : Nat -> Bool)
def Aof : Nat -> Nat -> PV
 | 0, t => A0 t
 | j + 1, t => if L j = true /\ dstOf ops j = some t then valOf (ef j) else Aof j t
def gof : Nat -> Sto
 | 0, id => g0 id
 | j + 1, id => if L j = true then (match ef j with
     | none => gof j id
     | some E => (wv E.W id).getD (gof j id)) else gof j id
end
theorem put_get (A : Env) (d : Option Nat) (v : PV) (t : Nat) : (put A d v).get t = if d = some t then v else A.get t := by
 cases d with
 | none => simp [put]
 | some d =>
   simp only [put, Env.get, Option.some.injEq]
   by_cases h : d = t
   · subst h; simp
   · have : beqN d t = false := by
       cases h' : beqN d t with
       | false => rfl
       | true => exact absurd (by simpa using h') h
     simp [h, this]
theorem text_state {G : Gs} {N : Nat} {ops : Array Oper} {st : Nat -> St} {ef : Nat -> Option Eff} (h : ∀ j, j < ops.size -> TStep P G N ops j (st j) (ef j) (st (j + 1))) :
  ∀ j, j <= ops.size -> (∀ t, Aof ops (st 0).A.get ef (fun _ => true) j t = (st j).A.get t) /\ gof (st 0).S.get ef (fun _ => true) j = (st j).S.get /\ (st 0).n <= (st j).n := by
 intro j
 induction j with
 | zero => intro _; exact ⟨fun _ => rfl, rfl, Nat.le_refl _⟩
 | succ j ih =>
   intro hj
   obtain ⟨h1, h2, h3⟩ := ih (by omega)
   obtain ⟨o, ho, _, hx⟩ := h j (by omega)
   cases he : ef j with
   | none =>
     rw [he] at hx
     obtain ⟨_, hs⟩ := hx
     refine ⟨fun t => ?_, ?_, by rw [hs]; exact h3⟩
     · rw [Aof, hs, put_get, he, dstOf, ho]
       simp only [true_and, Option.bind_some, valOf, h1]
     · funext id
       rw [gof, he, hs]
       simp only [if_true]
       exact congrFun h2 id
   | some E =>
     rw [he] at hx
     obtain ⟨_, hE, _, hs⟩ := hx
     refine ⟨fun t => ?_, ?_, by rw [hs]; exact Nat.le_trans h3 hE.1⟩
     · rw [Aof, hs, put_get, he, dstOf, ho]
       simp only [true_and, Option.bind_some, valOf, h1]
     · funext id
       rw [gof, he, hs]
       simp only [if_true]
       rw [get_setAll, updW_wv, h2]
section
variable {ops : Array Oper} {A0 : Nat -> PV} {g0 : Sto} {ef : Nat -> Option Eff} {L : Nat -> Bool} {i : Nat}
theorem Aof_at {t : Nat} (h : ∀ j, dstOf ops j = some t -> (j < i -> L j = true) /\ (i <= j -> L j = false)) : ∀ m, Aof ops A0 ef L m t = Aof ops A0 ef (fun _ => true) (min m i) t := by
 intro m
 induction m with
 | zero => simp [Aof]
 | succ m ih =>
   rw [Aof]
   by_cases hd : dstOf ops m = some t
   · rcases Nat.lt_or_ge m i with hm | hm
     · rw [show min (m + 1) i = m + 1 by omega, Aof]
       simp [hd, (h m hd).1 hm]
     · rw [show min (m + 1) i = min m i by omega, <- ih]
       simp [(h m hd).2 hm]
   · rw [if_neg (by simp [hd]), ih]
     rcases Nat.lt_or_ge m i with hm | hm
     · rw [show min (m + 1) i = m + 1 by omega, show min m i = m by omega, Aof]
       simp [hd]
     · rw [show min (m + 1) i = min m i by omega]
def writes (ef : Nat -> Option Eff) (j id : Nat) : Prop := ∃ E, ef j = some E /\ ∃ x ∈ E.W, x.1 = id
theorem gof_at {id : Nat} (h : ∀ j, writes ef j id -> (j < i -> L j = true) /\ (i <= j -> L j = false)) : ∀ m, gof g0 ef L m id = gof g0 ef (fun _ => true) (min m i) id := by
 intro m
 induction m with
 | zero => simp [gof]
 | succ m ih =>
   rw [gof]
   by_cases hd : writes ef m id
   · rcases Nat.lt_or_ge m i with hm | hm
     · rw [show min (m + 1) i = m + 1 by omega, gof]
       simp only [(h m hd).1 hm, if_true]
       rw [ih, show min m i = m by omega]
     · rw [show min (m + 1) i = min m i by omega, <- ih]
       simp [(h m hd).2 hm]
   · have hno : ∀ g : Sto, (match ef m with | none => g id | some E => (wv E.W id).getD (g id)) = g id := by
       intro g
       cases he : ef m with
       | none => rfl
       | some E =>
         simp only
         rw [wv_none (fun x hx e => hd ⟨E, he, x, hx, e⟩)]
         rfl
     rw [hno, ite_self, ih]
     rcases Nat.lt_or_ge m i with hm | hm
     · rw [show min (m + 1) i = m + 1 by omega, show min m i = m by omega, gof]
       simp only [if_true]
       exact (hno _).symm
     · rw [show min (m + 1) i = min m i by omega]
def more (L : Nat -> Bool) (i : Nat) : Nat -> Bool := fun j => L j || decide (j = i)
theorem Aof_more {t : Nat} (hi : L i = false) (h : dstOf ops i = some t -> ∀ j, i < j -> dstOf ops j = some t -> L j = false) :
  ∀ m, Aof ops A0 ef (more L i) m t = if i < m /\ dstOf ops i = some t then valOf (ef i) else Aof ops A0 ef L m t := by
 intro m
 induction m with
 | zero => simp [Aof]
 | succ m ih =>
   rw [Aof, ih]
   by_cases hm : m = i
   · subst hm
     simp only [more, hi, decide_true, Bool.or_true, true_and, Nat.lt_succ_self, Nat.lt_irrefl, false_and, if_false]
     rw [Aof]
     simp [hi]
   · have hmore : more L i m = L m := by simp [more, hm]
     rw [hmore]
     by_cases hd : dstOf ops i = some t
     · rcases Nat.lt_or_ge i m with hlt | hge
       · simp only [hd, and_true, hlt, if_true, show i < m + 1 by omega]
         by_cases hdm : dstOf ops m = some t
         · simp [h hd m hlt hdm]
         · simp [hdm]
       · simp only [hd, and_true, show ¬ i < m by omega, if_false, show ¬ i < m + 1 by omega]
         rw [Aof]
     · simp only [hd, and_false, if_false]
       rw [Aof]
theorem gof_more {id : Nat} (hi : L i = false) (h : writes ef i id -> ∀ j, i < j -> writes ef j id -> L j = false) :
  ∀ m, gof g0 ef (more L i) m id = if i < m then (match ef i with | none => gof g0 ef L m id | some E => (wv E.W id).getD (gof g0 ef L m id)) else gof g0 ef L m id := by
 intro m
 induction m with
 | zero => simp [gof]
 | succ m ih =>
   rw [gof, ih]
   by_cases hm : m = i
   · subst hm
     simp only [more, hi, decide_true, Bool.or_true, if_true, Nat.lt_irrefl, if_false, Nat.lt_succ_self]
     have : gof g0 ef L (m + 1) id = gof g0 ef L m id := by rw [gof]; simp [hi]
     rw [this]
   · have hmore : more L i m = L m := by simp [more, hm]
     rw [hmore]
     rcases Nat.lt_or_ge i m with hlt | hge
     · simp only [hlt, if_true, show i < m + 1 by omega]
       cases hL : L m with
       | false =>
         have : gof g0 ef L (m + 1) id = gof g0 ef L m id := by rw [gof]; simp [hL]
         simp [this]
       | true =>
         simp only [if_true]
         have e1 : gof g0 ef L (m + 1) id = match ef m with | none => gof g0 ef L m id | some E => (wv E.W id).getD (gof g0 ef L m id) := by rw [gof]; simp [hL]
         rw [e1]
         by_cases hw : writes ef i id
         · have hnw : ¬ writes ef m id := fun hw' => by have := h hw m hlt hw'; rw [this] at hL; cases hL
           cases hem : ef m with
           | none => rfl
           | some E' =>
             simp only
             rw [wv_none (fun x hx e => hnw ⟨E', hem, x, hx, e⟩)]
             rfl
         · have hno : ∀ x : Option SObj, (match ef i with | none => x | some E => (wv E.W id).getD x) = x := by
             intro x
             cases he : ef i with
             | none => rfl
             | some E =>
               simp only
               rw [wv_none (fun x hx e => hw ⟨E, he, x, hx, e⟩)]
               rfl
           rw [hno, hno]
     · simp only [show ¬ i < m by omega, if_false, show ¬ i < m + 1 by omega]
       rw [gof]
end
structure DrawOK (ops : Array Oper) (ef : Nat -> Option Eff) : Prop where
 edge : ∀ (j : Nat) (o : Oper) (e : Edge), ops[j]? = some o -> e ∈ o.after.toList -> Region.binds .any e = true -> e.on < j
 pair : ∀ (i j : Nat) (oi oj : Oper), i < j -> ops[i]? = some oi -> ops[j]? = some oj -> Reach ops j i \/
  (oi.apart ops oj = true /\ meets (logOf (ef i)).2 (logOf (ef j)).1 = false /\ meets (logOf (ef i)).1 (logOf (ef j)).2 = false /\ meets (logOf (ef i)).2 (logOf (ef j)).2 = false)
theorem drawOK_spec {ops : Array Oper} {ef : Nat -> Option Eff} (h : drawOK ops ((List.range' 0 (ops.size - 0)).map fun j => logOf (ef j)) = true) : DrawOK ops ef := by
 unfold drawOK at h
 simp only [Bool.and_eq_true, List.all_eq_true] at h
 obtain ⟨_, h⟩ := h
 have hlog : ∀ j, j < ops.size -> ((List.range' 0 (ops.size - 0)).map fun j => logOf (ef j))[j]? = some (logOf (ef j)) := by
  intro j hj
  rw [List.getElem?_map, List.getElem?_range' (by omega)]
  simp
 constructor
 ·intro j o e ho he hb
  have hj := lt_of_get ho
  have := h j (List.mem_range.2 hj)
  rw [ho] at this
  simp only [Bool.and_eq_true] at this
  have h1 := Array.all_eq_true_iff_forall_mem.1 this.1 e (Array.mem_toList_iff.1 he)
  simpa [hb] using h1
 ·intro i j oi oj hij hi hj
  have hjl := lt_of_get hj
  have := h j (List.mem_range.2 hjl)
  rw [hj] at this
  simp only [Bool.and_eq_true, List.all_eq_true] at this
  have h1 := this.2 i (List.mem_range.2 hij)
  rw [hi, hlog i (by omega), hlog j hjl] at h1
  simp only [Bool.or_eq_true, Bool.and_eq_true, Bool.not_eq_true', Bool.or_eq_false_iff] at h1
  rcases h1 with h1 | ⟨h1, ⟨h2, h3⟩, h4⟩
  ·exact .inl (before_reach ops j i h1)
  ·exact .inr ⟨h1, h2, h3, h4⟩
theorem meets_false {a b : List Nat} (h : meets a b = false) {x : Nat} (ha : x ∈ a) (hb : x ∈ b) : False := by
 have : meets a b = true := by
  unfold meets
  rw [List.any_eq_true]
  exact ⟨x, ha, by rw [List.any_eq_true]; exact ⟨x, hb, by simp⟩⟩
 rw [this] at h; cases h
structure Fit (ops : Array Oper) (ef : Nat -> Option Eff) (L : Nat -> Bool) (i : Nat) : Prop where
 closed : Closed ops L
 not : L i = false
 edges : ∀ (o : Oper) (e : Edge), ops[i]? = some o -> e ∈ o.after.toList -> Region.binds .any e = true -> L e.on = true
theorem Fit.ahead {ops ef L i} (h : Fit ops ef L i) {o : Oper} (ho : ops[i]? = some o) {j : Nat} (hr : Reach ops i j) : L j = true := by
 cases hr with
 | edge h1 h2 h3 h4 =>
   obtain rfl : o = _ := Option.some.inj (ho.symm.trans h1)
   rw [<- h4]; exact h.edges _ _ ho h2 h3
 | step h1 h2 h3 h4 h5 =>
   obtain rfl : o = _ := Option.some.inj (ho.symm.trans h1)
   exact h.closed.reach h5 (h4 ▸ h.edges _ _ ho h2 h3)
theorem Fit.behind {ops ef L i} (h : Fit ops ef L i) {j : Nat} (hr : Reach ops j i) : L j = false := by
 cases hj : L j with
 | false => rfl
 | true => have := h.closed.reach hr hj; rw [h.not] at this; cases this
theorem Fit.slot {ops ef L i} (h : Fit ops ef L i) (hd : DrawOK ops ef) {o : Oper} (ho : ops[i]? = some o) {t : Nat} (ht : t ∈ o.looksAt ops \/ o.dst = some t) :
  ∀ j, dstOf ops j = some t -> (j < i -> L j = true) /\ (i <= j -> L j = false) := by
 intro j hj
 unfold dstOf at hj
 cases hoj : ops[j]? with
 | none => simp [hoj] at hj
 | some oj =>
   rw [hoj] at hj
   simp only [Option.bind_some] at hj
   refine ⟨fun hlt => ?_, fun hle => ?_⟩
   · rcases hd.pair j i oj o hlt hoj ho with hr | ⟨hap, _⟩
     · exact h.ahead ho hr
     · obtain ⟨a1, a2, a3⟩ := Oper.apart_spec hap
       rcases ht with ht | ht
       · exact absurd ht (a1 t hj)
       · exact absurd ht (a2 t hj)
   · rcases Nat.eq_or_lt_of_le hle with e | hlt
     · subst e; exact h.not
     · rcases hd.pair i j o oj hlt ho hoj with hr | ⟨hap, _⟩
       · exact h.behind hr
       · obtain ⟨a1, a2, a3⟩ := Oper.apart_spec hap
         rcases ht with ht | ht
         · exact absurd ht (a3 t hj)
         · exact absurd hj (a2 t ht)
theorem Fit.object {ops ef L i} (h : Fit ops ef L i) (hd : DrawOK ops ef) {o : Oper} (ho : ops[i]? = some o) {E : Eff} (hE : ef i = some E) {id : Nat} (ht : id ∈ E.F \/ ∃ x ∈ E.W, x.1 = id)
  (hN : ∀ j, writes ef j id -> j < ops.size) :
  ∀ j, writes ef j id -> (j < i -> L j = true) /\ (i <= j -> L j = false) := by
 intro j hj
 have hjN := hN j hj
 obtain ⟨E', hE', x, hx, hxi⟩ := hj
 have hoj : ops[j]? = some ops[j] := Array.getElem?_eq_getElem hjN
 have hwj : id ∈ (logOf (ef j)).2 := by rw [hE']; exact List.mem_map.2 ⟨x, hx, hxi⟩
 have hFi : id ∈ E.F -> id ∈ (logOf (ef i)).1 := fun hm => by rw [hE]; exact hm
 have hWi : (∃ x ∈ E.W, x.1 = id) -> id ∈ (logOf (ef i)).2 := fun ⟨y, hy, hyi⟩ => by rw [hE]; exact List.mem_map.2 ⟨y, hy, hyi⟩
 refine ⟨fun hlt => ?_, fun hle => ?_⟩
 ·rcases hd.pair j i _ o hlt hoj ho with hr | ⟨_, m1, m2, m3⟩
  ·exact h.ahead ho hr
  ·rcases ht with ht | ht
   ·exact (meets_false m1 hwj (hFi ht)).elim
   ·exact (meets_false m3 hwj (hWi ht)).elim
 ·rcases Nat.eq_or_lt_of_le hle with e | hlt
  ·subst e; exact h.not
  ·rcases hd.pair i j o _ hlt ho hoj with hr | ⟨_, m1, m2, m3⟩
   ·exact h.behind hr
   ·rcases ht with ht | ht
    ·exact (meets_false m2 (hFi ht) hwj).elim
    ·exact (meets_false m3 (hWi ht) hwj).elim
end Go.Abs
namespace Go.Abs
variable {P : Program}
theorem ofValue_rel (M : Mem) (ρ : Names) (v : Value) : rel M (ofValue v) ρ .val [v] := by
 cases v
 case bool b => cases b <;> exact ⟨by simp, rfl⟩
 case int k n => exact ⟨by simp, rfl⟩
 case string s => exact ⟨by simp, rfl⟩
 case pointer a => cases a with
  | none => exact ⟨by simp, rfl⟩
  | some a => exact ⟨rfl, _, rfl⟩
 case slice a n c => cases a with
  | none =>
    show rel M (bif beqN n 0 && beqN c 0 then .nils else .undef) ρ .val _
    cases h : (beqN n 0 && beqN c 0) with
    | true =>
      simp only [Bool.and_eq_true, beq_iff_eq] at h
      obtain ⟨rfl, rfl⟩ := h
      exact ⟨by simp, rfl⟩
    | false => exact ⟨rfl, _, rfl⟩
  | some a => exact ⟨rfl, _, rfl⟩
 case map r => cases r with
  | none => exact ⟨by simp, rfl⟩
  | some r => exact ⟨rfl, _, rfl⟩
 case nilFunc => exact ⟨by simp, rfl⟩
 case nilIface => exact ⟨by simp, rfl⟩
 all_goals exact ⟨rfl, _, rfl⟩
structure RelA (M : Mem) (ρ : Names) (N : Nat) (ds : List Deferred) (A : Nat -> PV) (a : Act) : Prop where
 slot : ∀ t, rel M (A t) ρ .val [a.tmps.getD t Go.undef]
 size : a.tmps.size = N
 defers : a.defers = ds
theorem RelA.mono {M M' : Mem} {ρ ρ' : Names} {N : Nat} {ds : List Deferred} {A : Nat -> PV} {a : Act} (h : RelA M ρ N ds A a) (hM : M.le M') (hρ : ρ.le ρ') : RelA M' ρ' N ds A a :=
 ⟨fun t => rel_mono hM _ hρ (h.slot t), h.size, h.defers⟩
theorem RelA.opnd {G : Gs} {M : Mem} {ρ : Names} {N : Nat} {ds : List Deferred} {A : Env} {a : Act} (h : RelA M ρ N ds A.get a) (hG : GOK G M) (x : Operand) : rel M (opnd G.val A x) ρ .val [a.eval x] := by
 cases x with
 | tmp t => exact h.slot t
 | const v => exact ofValue_rel M ρ v
 | global g => exact rel_mono (Mem.le_refl _) _ (noNames_le ρ) (hG.1 g)
 | func f => exact ⟨[], [], ⟨by simp, rfl⟩, ⟨by simp, rfl⟩, ⟨by simp, rfl⟩⟩
theorem RelA.put {M : Mem} {ρ : Names} {N : Nat} {ds : List Deferred} {A : Nat -> PV} {a : Act} (h : RelA M ρ N ds A a) {d : Option Nat} (hd : slotOK N d = true) {pv : PV} {v : Value} (hv : rel M pv ρ .val [v]) :
  RelA M ρ N ds (fun t => if d = some t then pv else A t) (a.put d v) := by
 cases d with
 | none => exact ⟨fun t => (by rw [if_neg (by simp)]; exact h.slot t), h.size, h.defers⟩
 | some d =>
   simp only [slotOK, decide_eq_true_eq] at hd
   refine ⟨fun t => ?_, by simpa [Act.put] using h.size, h.defers⟩
   simp only [Option.some.injEq, Act.put]
   by_cases ht : d = t
   · subst ht
     rw [if_pos rfl, Array.getD_eq_getD_getElem?, Array.getElem?_setIfInBounds_self_of_lt (by rw [h.size]; exact hd)]
     exact hv
   · rw [if_neg ht, Array.getD_eq_getD_getElem?, Array.getElem?_setIfInBounds_ne ht, <- Array.getD_eq_getD_getElem?]
     exact h.slot t
def FW (r : Option Nat) : Fence := { fn := fun _ => True, depth := none, alive := false, round := r }
theorem room_fw (r : Option Nat) (n : Nat) : (FW r).room n := fun _ h => by simp [FW] at h
theorem execOp_defer {ev : Operand -> Value} {o : Oper} {c : Call} (h : o.op = .defer c) : execOp ev o = (do pure (.defer (<- resolve ev c o.type))) := by
 unfold execOp; rw [h]
theorem OpR.wp {r : Option Nat} {m : Nat} {a : Act} {o : Oper} {w : World} {R : Value -> World -> Prop} {K : Act -> World -> Prop} {Q : Exit -> Act -> World -> Prop} (h : OpR P a.eval o w R) (hK : ∀ v w', R v w' -> K (a.put o.dst v) w') :
  o.wpIn (FW r) m P a w K Q := by
 have hnd : ∀ c, o.op ≠ .defer c := by
  intro c hc
  unfold OpR at h
  rw [execOp_defer hc] at h
  simp only [Sem.run_bind] at h
  cases hr : (resolve a.eval c o.type).run P w with
  | ok d w' => rw [hr] at h; exact h
  | halt e w' => rw [hr] at h; exact h
 refine ⟨fun _ _ => trivial, ?_⟩
 rw [Oper.semAt_eq _ _ _ hnd]
 unfold OpR at h
 generalize (execOp a.eval o).run P w = q at *
 split at h
 ·exact hK _ _ h
 ·exact hK _ _ h
 ·refine ⟨(fun h => by cases h), trivial, fun cs _ => ?_⟩
  obtain ⟨e, w', fr, ⟨v, rfl, hv⟩, h2⟩ := (callsIn_wide (n := 0)).2 h |>.2 cs (room_wide _)
  exact ⟨.returned v, w', fr, hK _ _ hv, h2⟩
 ·refine ⟨(fun h => by cases h), fun c cs _ => ?_⟩
  obtain ⟨v, w', h1, h2⟩ := h c cs
  exact ⟨v, w', hK _ _ h1, stepsIn_wide.2 h2⟩
 ·refine ⟨(fun h => by cases h), trivial, fun c cs _ => ?_⟩
  obtain ⟨e, w', ⟨v, rfl, hv⟩, h2⟩ := h.2 c cs (room_wide _)
  exact ⟨.returned v, w', hK _ _ hv, h2⟩
 ·exact h.elim
theorem wanted_of {M : Mem} {ρ : Names} {N : Nat} {A : Env} {ops : Array Oper} {a : Act} {o : Oper} (hs : ∀ g w, o.guard = some (g, w) -> ∀ og d, ops[g]? = some og -> og.dst = some d -> rel M (A.get d) ρ .val [a.tmps.getD d Go.undef])
  {b : Bool} (h : GuardP ops A o.guard b) : Region.wanted o (yielded ops a.tmps) = b := by
 unfold GuardP at h
 unfold Region.wanted
 cases hg : o.guard with
 | none => rw [hg] at h; simpa using h.symm
 | some q =>
   obtain ⟨j, want⟩ := q
   rw [hg] at h
   obtain ⟨oj, d, hoj, hd, ht⟩ := h
   have hy : ∀ q : Bool, a.tmps.getD d Go.undef = .bool q -> yielded ops a.tmps j = some q := by
     intro q hq
     unfold yielded
     rw [hoj, Option.bind_some, hd, Option.bind_some]
     rw [Array.getD_eq_getD_getElem?] at hq
     cases hx : a.tmps[d]? with
     | none => rw [hx] at hq; cases hq
     | some v => rw [hx] at hq; simp only [Option.getD_some] at hq; subst hq; rfl
   rcases ht with ht | ⟨rfl, ht⟩
   · have hq := ht _ _ _ (hs j want hg oj d hoj hd)
     simp only
     rw [hy _ hq]
     cases b <;> cases want <;> rfl
   · have hq := ht _ _ _ (hs j want hg oj d hoj hd)
     have hn : yielded ops a.tmps j = none := by
       unfold yielded
       rw [hoj, Option.bind_some, hd, Option.bind_some]
       rw [Array.getD_eq_getD_getElem?] at hq
       cases hx : a.tmps[d]? with
       | none => rfl
       | some v =>
         rw [hx] at hq
         simp only [Option.getD_some] at hq
         cases v with
         | bool b => exact absurd rfl (hq b)
         | _ => rfl
     simp only
     rw [hn]
     rfl
theorem Adv.range {M ρ g w n n' M' ρ' g' w'} (h : Adv M ρ g w n n' M' ρ' g' w') {m m' : Nat} (h1 : m <= n) (h2 : n' <= m') : Adv M ρ g w m m' M' ρ' g' w' :=
 { h with fresh := fun id a b => by have := h.fresh id a b; omega }
theorem Adv.then {M ρ g w n n' M1 ρ1 g1 w1 M2 ρ2 g2 w2} (h : Adv M ρ g w n n' M1 ρ1 g1 w1) (k : Adv M1 ρ1 g1 w1 n n' M2 ρ2 g2 w2) : Adv M ρ g w n n' M2 ρ2 g2 w2 where
 mem := Mem.le_trans h.mem k.mem
 names := Names.le_trans h.names k.names
 fresh := fun id h0 h2 => by
  by_cases h' : ρ1 id = none
  ·exact k.fresh id h' h2
  ·exact h.fresh id h0 h'
 os := k.os.trans h.os
 tape := k.tape.trans h.tape
 output := k.output.trans h.output
 size := Nat.le_trans h.size k.size
 heap := fun b hb ho => by
  rw [k.heap b (by have := h.size; omega) (fun ho1 => by rcases h.blks b ho1 with h' | h'; omega; exact ho h'), h.heap b hb ho]
 blks := fun b ho => by
  rcases k.blks b ho with h' | h'
  ·exact .inl (by have := h.size; omega)
  ·exact h.blks b h'
 mnew := fun b i h2 h0 => by
  by_cases h' : M1 b i = none
  ·rcases k.mnew b i h2 h' with h'' | h''
   ·exact .inl (by have := h.size; omega)
   ·exact h.blks b h''
  ·exact h.mnew b i h' h0
 kk := fun hg => ⟨(k.kk (h.kk hg).2).1.trans (h.kk hg).1, (k.kk (h.kk hg).2).2⟩
 mst := k.mst.trans h.mst
section
variable {G : Gs} {N : Nat} {ds : List Deferred} {ops : Array Oper} {st : Nat -> St} {ef : Nat -> Option Eff}
structure RI (P : Program) (G : Gs) (N : Nat) (ds : List Deferred) (ops : Array Oper) (st : Nat -> St) (ef : Nat -> Option Eff) (M0 : Mem) (ρ0 : Names) (w0 : World) (L : Nat -> Bool) (a : Act) (w : World) (M : Mem) (ρ : Names) : Prop where
 inv : Inv M ρ (gof (st 0).S.get ef L ops.size) w
 env : RelA M ρ N ds (Aof ops (st 0).A.get ef L ops.size) a
 adv : Adv M0 ρ0 (st 0).S.get w0 (st 0).n (st ops.size).n M ρ (gof (st 0).S.get ef L ops.size) w
 free : ∀ id, ρ id ≠ none -> ρ0 id ≠ none \/ ∃ j, j < ops.size /\ L j = true /\ (st j).n <= id /\ id < (st (j + 1)).n
theorem n_mono (h : ∀ j, j < ops.size -> TStep P G N ops j (st j) (ef j) (st (j + 1))) : ∀ i j, i <= j -> j <= ops.size -> (st i).n <= (st j).n := by
 intro i j hij
 induction j with
 | zero =>
  intro _
  have e : i = 0 := by omega
  rw [e]; exact Nat.le_refl _
 | succ j ih =>
   intro hj
   rcases Nat.eq_or_lt_of_le hij with e | hlt
   · subst e; exact Nat.le_refl _
   · refine Nat.le_trans (ih (by omega) (by omega)) ?_
     obtain ⟨o, _, _, hx⟩ := h j (by omega)
     cases he : ef j with
     | none => rw [he] at hx; rw [hx.2]; exact Nat.le_refl _
     | some E => rw [he] at hx; rw [hx.2.2.2]; exact hx.2.1.1
theorem round {r : Option Nat} {m : Nat} (hT : ∀ j, j < ops.size -> TStep P G N ops j (st j) (ef j) (st (j + 1))) (hefN : ∀ j, ops.size <= j -> ef j = none) (hd : DrawOK ops ef) {M0 : Mem} {ρ0 : Names} {w0 : World} (hG : GOK G M0) (hn0 : ∀ id, (st 0).n <= id -> ρ0 id = none)
  {L : Nat -> Bool} {i : Nat} (hf : Fit ops ef L i) (hi : i < ops.size) {a : Act} {w : World} {M : Mem} {ρ : Names} (hR : RI P G N ds ops st ef M0 ρ0 w0 L a w M ρ) {Q : Exit -> Act -> World -> Prop} {K : Act -> World -> Prop}
  (hK : ∀ a' w' M' ρ', RI P G N ds ops st ef M0 ρ0 w0 (more L i) a' w' M' ρ' -> K a' w') : wpOpIn (FW r) m P ops Q i K a w := by
 obtain ⟨o, ho, hs, hx⟩ := hT i hi
 obtain ⟨tA, tS, _⟩ := text_state hT i (by omega)
 have hwN : ∀ j id, writes ef j id -> j < ops.size := by
  intro j id ⟨E, hE, _⟩
  rcases Nat.lt_or_ge j ops.size with h | h
  ·exact h
  ·rw [hefN j h] at hE; cases hE
 have hslot : ∀ t, (t ∈ o.looksAt ops \/ o.dst = some t) -> Aof ops (st 0).A.get ef L ops.size t = (st i).A.get t := by
  intro t ht
  rw [Aof_at (hf.slot hd ho ht), show min ops.size i = i by omega, tA]
 have hopnd : ∀ x ∈ o.op.operands.toList, rel M (opnd G.val (st i).A x) ρ .val [a.eval x] := by
  intro x hx
  cases x with
  | tmp t =>
    have : t ∈ o.looksAt ops := by
      unfold Oper.looksAt
      exact List.mem_append_left _ (List.mem_filterMap.2 ⟨.tmp t, hx, rfl⟩)
    have h1 := hR.env.slot t
    rw [hslot t (.inl this)] at h1
    exact h1
  | const v => exact ofValue_rel M ρ v
  | global g => exact rel_mono (Mem.le_refl _) _ (noNames_le ρ) ((hG.mono hR.adv.mem).1 g)
  | func f => exact ⟨[], [], ⟨by simp, rfl⟩, ⟨by simp, rfl⟩, ⟨by simp, rfl⟩⟩
 have hguard : ∀ b, GuardP ops (st i).A o.guard b -> Region.wanted o (yielded ops a.tmps) = b := by
  intro b hb
  refine wanted_of (M := M) (ρ := ρ) (N := N) (fun g w' hg og d hog hdd => ?_) hb
  have : d ∈ o.looksAt ops := by
   unfold Oper.looksAt
   rw [hg]
   refine List.mem_append_right _ ?_
   simp [hog, hdd]
  have h1 := hR.env.slot d
  rw [hslot d (.inl this)] at h1
  exact h1
 have henv : ∀ {M' : Mem} {ρ' : Names} {v : Value}, M.le M' -> ρ.le ρ' -> rel M' (valOf (ef i)) ρ' .val [v] -> RelA M' ρ' N ds (Aof ops (st 0).A.get ef (more L i) ops.size) (a.put o.dst v) := by
  intro M' ρ' v hM hρ hv
  have h1 := (hR.env.mono hM hρ).put hs hv
  have h2 : (fun t => if o.dst = some t then valOf (ef i) else Aof ops (st 0).A.get ef L ops.size t) = Aof ops (st 0).A.get ef (more L i) ops.size := by
   funext t
   rw [Aof_more hf.not (fun hdt j hj hdj => ?_)]
   ·have : dstOf ops i = o.dst := by simp [dstOf, ho]
    rw [this]
    simp [hi]
   ·have hdi : o.dst = some t := by simpa [dstOf, ho] using hdt
    exact ((hf.slot hd ho (.inr hdi)) j hdj).2 (by omega)
  rw [h2] at h1
  exact h1
 unfold wpOpIn
 simp only [ho]
 cases he : ef i with
 | none =>
   rw [he] at hx
   have hw := hguard false hx.1
   rw [hw]
   simp only [Bool.false_eq_true, if_false]
   have hg : gof (st 0).S.get ef (more L i) ops.size = gof (st 0).S.get ef L ops.size := by
     funext id
     rw [gof_more hf.not (fun hw => by obtain ⟨E, hE, _⟩ := hw; rw [he] at hE; cases hE)]
     simp [hi, he]
   refine ⟨fun _ _ => trivial, hK _ _ M ρ ⟨by rw [hg]; exact hR.inv, henv (Mem.le_refl _) (Names.le_refl _) (by rw [he]; exact ⟨rfl, [], rfl, by simp, rfl⟩), by rw [hg]; exact hR.adv, fun id hid => ?_⟩⟩
   rcases hR.free id hid with h | ⟨j, h1, h2, h3⟩
   · exact .inl h
   · exact .inr ⟨j, h1, by simp [more, h2], h3⟩
 | some E =>
   rw [he] at hx
   obtain ⟨hgd, hE, hC, hst⟩ := hx
   have hw := hguard true hgd
   rw [hw]
   simp only [if_true]
   have hobj : ∀ id, (id ∈ E.F \/ ∃ x ∈ E.W, x.1 = id) -> gof (st 0).S.get ef L ops.size id = (st i).S.get id := by
     intro id hid
     rw [gof_at (hf.object hd ho he hid (hwN · id)), show min ops.size i = i by omega, tS]
   have honly : only (gof (st 0).S.get ef L ops.size) E.F = only (st i).S.get E.F := by
     funext id
     unfold only
     split
     · rename_i hid; exact hobj id (.inl hid)
     · rfl
   have hnn : (st (i + 1)).n = E.n := by rw [hst]
   have hfree : ∀ id, (st i).n <= id -> id < E.n -> ρ id = none := by
     intro id h1 h2
     cases hρ : ρ id with
     | none => rfl
     | some v =>
       exfalso
       rcases hR.free id (by simp [hρ]) with h | ⟨j, hj, hLj, h3, h4⟩
       · exact h (hn0 id (Nat.le_trans (n_mono hT 0 i (by omega) (by omega)) h1))
       · rcases Nat.lt_trichotomy j i with h | h | h
         · have := n_mono hT (j + 1) i (by omega) (by omega); omega
         · subst h; rw [hf.not] at hLj; cases hLj
         · have := n_mono hT (i + 1) j (by omega) (by omega); omega
   have hI := hR.inv.only E.F
   rw [honly] at hI
   have hrun := hE.2.2 o M ρ w a.eval rfl (fun _ => rfl) hI hfree hopnd hC (hG.mono hR.adv.mem)
   refine hrun.wp fun v w' ⟨M', ρ', hA, hI', hv⟩ => ?_
   rw [<- honly] at hA hI'
   obtain ⟨k1, k2⟩ := frame hR.inv hA hI' hfree
   have hgeq : over E.F (st i).n E.n (updW (only (gof (st 0).S.get ef L ops.size) E.F) E.W) (gof (st 0).S.get ef L ops.size) = gof (st 0).S.get ef (more L i) ops.size := by
     funext id
     rw [gof_more hf.not (fun hw j hj hwj => ((hf.object hd ho he (by obtain ⟨E', hE', hx⟩ := hw; rw [he] at hE'; cases hE'; exact .inr hx) (hwN · id)) j hwj).2 (by omega))]
     simp only [hi, if_true, he]
     unfold over
     split
     · rename_i hid
       rw [updW_wv]
       cases hwv : wv E.W id with
       | some o' => rfl
       | none =>
         simp only [Option.getD_none]
         unfold only
         split
         · rfl
         · rename_i hnF
           rcases hid with hid | hid
           · exact absurd hid hnF
           · cases hgo : gof (st 0).S.get ef L ops.size id with
             | none => rfl
             | some o' =>
               obtain ⟨v', hv', _⟩ := hR.inv.obj id o' hgo
               rw [hfree id hid.1 hid.2] at hv'; cases hv'
     · rename_i hid
       rw [wv_none (fun x hx e => hid ?_)]
       · rfl
       · rcases hE.2.1 x hx with h | h
         · exact .inl (e ▸ h)
         · exact .inr (e ▸ h)
   rw [hgeq] at k1 k2
   have hb1 := n_mono hT 0 i (by omega) (by omega)
   have hb2 := n_mono hT (i + 1) ops.size (by omega) (by omega)
   refine hK _ _ M' ρ' ⟨k1, henv hA.mem hA.names (by rw [he]; exact hv), ?_, fun id hid => ?_⟩
   · have hn1 := hE.1
     have t1 : Adv M ρ (gof (st 0).S.get ef L ops.size) w (st 0).n (st ops.size).n M' ρ' (gof (st 0).S.get ef (more L i) ops.size) w' := k2.range hb1 (by omega)
     exact hR.adv.then t1
   · by_cases hρ : ρ id = none
     · have := hA.fresh id hρ hid
       exact .inr ⟨i, hi, by simp [more], by rw [hnn]; exact this⟩
     · rcases hR.free id hρ with h | ⟨j, h1, h2, h3⟩
       · exact .inl h
       · exact .inr ⟨j, h1, by simp [more, h2], h3⟩
end
end Go.Abs
namespace Go.Abs
variable {P : Program}
theorem countP_less {α : Type} [DecidableEq α] (p p' : α -> Bool) (i : α) (hp : p i = true) (h : ∀ j, p' j = (p j && decide (j ≠ i))) : ∀ l : List α, l.Nodup -> i ∈ l -> l.countP p' + 1 = l.countP p
 | [], _, hi => by cases hi
 | x :: l, hn, hi => by
   obtain ⟨hx, hn'⟩ := List.nodup_cons.1 hn
   rcases List.mem_cons.1 hi with e | hi'
   · subst e
     have : l.countP p' = l.countP p := by
       apply List.countP_congr
       intro j hj
       have : j ≠ i := fun e => hx (e ▸ hj)
       rw [h]; simp [this]
     rw [List.countP_cons, List.countP_cons, this]
     simp [h, hp]
   · have ih := countP_less p p' i hp h l hn' hi'
     have hxi : x ≠ i := fun e => hx (e ▸ hi')
     rw [List.countP_cons, List.countP_cons]
     have : p' x = p x := by rw [h]; simp [hxi]
     rw [this]
     omega
def Lof (listed : Array Bool) : Nat -> Bool := fun j => listed.getD j false
section
variable {G : Gs} {N : Nat} {ds : List Deferred} {ops : Array Oper} {st : Nat -> St} {ef : Nat -> Option Eff}
theorem Aof_congr {A0 : Nat -> PV} {L L' : Nat -> Bool} (m t : Nat) (h : ∀ j, j < m -> L j = L' j) : Aof ops A0 ef L m t = Aof ops A0 ef L' m t := by
 induction m with
 | zero => rfl
 | succ m ih => rw [Aof, Aof, ih (fun j hj => h j (by omega)), h m (by omega)]
theorem gof_congr {g0 : Sto} {L L' : Nat -> Bool} (m : Nat) (h : ∀ j, j < m -> L j = L' j) : gof g0 ef L m = gof g0 ef L' m := by
 induction m with
 | zero => rfl
 | succ m ih =>
   funext id
   rw [gof, gof, ih (fun j hj => h j (by omega)), h m (by omega)]
theorem RI.congr {M0 ρ0 w0 L L' a w M ρ} (h : RI P G N ds ops st ef M0 ρ0 w0 L a w M ρ) (hL : ∀ j, j < ops.size -> L j = L' j) : RI P G N ds ops st ef M0 ρ0 w0 L' a w M ρ := by
 have e1 : gof (st 0).S.get ef L ops.size = gof (st 0).S.get ef L' ops.size := gof_congr _ hL
 have e2 : Aof ops (st 0).A.get ef L ops.size = Aof ops (st 0).A.get ef L' ops.size := funext fun t => Aof_congr _ t hL
 refine ⟨by rw [<- e1]; exact h.inv, by rw [<- e2]; exact h.env, by rw [<- e1]; exact h.adv, fun id hid => ?_⟩
 rcases h.free id hid with h1 | ⟨j, h1, h2, h3⟩
 ·exact .inl h1
 ·exact .inr ⟨j, h1, by rw [<- hL j h1]; exact h2, h3⟩
theorem any_of {r : Option Nat} {m : Nat} (hT : ∀ j, j < ops.size -> TStep P G N ops j (st j) (ef j) (st (j + 1))) (hefN : ∀ j, ops.size <= j -> ef j = none) (hd : DrawOK ops ef) {M0 : Mem} {ρ0 : Names} {w0 : World} (hG : GOK G M0) (hn0 : ∀ id, (st 0).n <= id -> ρ0 id = none)
  {Q : Exit -> Act -> World -> Prop} (hQ : ∀ a w M ρ, RI P G N ds ops st ef M0 ρ0 w0 (fun _ => true) a w M ρ -> Q .normal a w) :
  ∀ (fuel : Nat) (listed : Array Bool) (a : Act) (w : World) (M : Mem) (ρ : Names), listed.size = ops.size -> (List.range ops.size).countP (fun j => !Lof listed j) <= fuel -> Closed ops (Lof listed) ->
    RI P G N ds ops st ef M0 ρ0 w0 (Lof listed) a w M ρ -> wpAnyIn (FW r) m P .any ops Q fuel listed a w := by
 have hall : ∀ listed : Array Bool, listed.size = ops.size -> Closed ops (Lof listed) -> Region.ready .any ops listed = [] -> ∀ j, j < ops.size -> Lof listed j = true := by
  intro listed hsz hcl hr j
  induction j using Nat.strongRecOn with
  | _ j ih =>
    intro hj
    cases hl : Lof listed j with
    | true => rfl
    | false =>
      exfalso
      have hoj : ops[j]? = some ops[j] := Array.getElem?_eq_getElem hj
      have : j ∈ Region.ready .any ops listed := by
        refine mem_ready.2 ⟨?_, ops[j], hoj, fun e he hb => ?_⟩
        · unfold Lof at hl
          rw [Array.getD_eq_getD_getElem?, Array.getElem?_eq_getElem (by omega)] at hl ⊢
          simpa using hl
        · have he' := Array.mem_toList_iff.2 he
          exact ih e.on (hd.edge j _ e hoj he' hb) (by have := hd.edge j _ e hoj he' hb; omega)
      rw [hr] at this; cases this
 intro fuel
 induction fuel with
 | zero =>
   intro listed a w M ρ hsz hc hcl hR
   have hL : ∀ j, j < ops.size -> Lof listed j = true := by
     intro j hj
     have := List.countP_eq_zero.1 (Nat.le_zero.1 hc) j (List.mem_range.2 hj)
     simpa using this
   refine ⟨?_, hQ a w M ρ (hR.congr fun j hj => by rw [hL j hj])⟩
   cases hr : Region.ready .any ops listed with
   | nil => rfl
   | cons i rs =>
     exfalso
     obtain ⟨h1, o, ho, _⟩ := mem_ready.1 (show i ∈ Region.ready .any ops listed by rw [hr]; simp)
     have := hL i (lt_of_get ho)
     unfold Lof at this
     have hlt := lt_of_get ho
     rw [Array.getD_eq_getD_getElem?, Array.getElem?_eq_getElem (by omega)] at h1 this
     simp only [Option.getD_some] at h1 this
     rw [h1] at this; cases this
 | succ fuel ih =>
   intro listed a w M ρ hsz hc hcl hR
   refine ⟨fun hr => hQ a w M ρ (hR.congr fun j hj => by rw [hall listed hsz hcl hr j hj]), fun i hi => ?_⟩
   obtain ⟨h1, o, ho, hed⟩ := mem_ready.1 hi
   have hlt := lt_of_get ho
   have hLi : Lof listed i = false := by
     unfold Lof
     rw [Array.getD_eq_getD_getElem?, Array.getElem?_eq_getElem (by omega)] at h1 ⊢
     simpa using h1
   have hmore : more (Lof listed) i = Lof (listed.setIfInBounds i true) := by
     funext j
     unfold more Lof
     by_cases hj : j = i
     · subst hj
       simp [Array.getD_eq_getD_getElem?, Array.getElem?_setIfInBounds_self_of_lt (by omega : j < listed.size)]
     · simp [Array.getD_eq_getD_getElem?, Array.getElem?_setIfInBounds_ne (Ne.symm hj), hj]
   have hf : Fit ops ef (Lof listed) i := ⟨hcl, hLi, fun o' e ho' he hb => by
     obtain rfl : o = o' := Option.some.inj (ho.symm.trans ho')
     exact hed e (Array.mem_toList_iff.1 he) hb⟩
   refine round hT hefN hd hG hn0 hf hlt hR fun a' w' M' ρ' hR' => ?_
   rw [hmore] at hR'
   refine ih _ a' w' M' ρ' (by simpa using hsz) ?_ (fun j o' e ho' hj he hb => ?_) hR'
   · have := countP_less (fun j => !Lof listed j) (fun j => !Lof (listed.setIfInBounds i true) j) i (by simp [hLi]) (fun j => by
       rw [<- hmore]; simp [more]) (List.range ops.size) List.nodup_range (List.mem_range.2 hlt)
     omega
   · rw [<- hmore] at hj ⊢
     simp only [more, Bool.or_eq_true, decide_eq_true_eq] at hj ⊢
     rcases hj with hj | hj
     · exact .inl (hcl j o' e ho' hj he hb)
     · subst hj
       obtain rfl : o = o' := Option.some.inj (ho.symm.trans ho')
       exact .inl (hed e (Array.mem_toList_iff.1 he) hb)
end
structure After (P : Program) (G : Gs) (N : Nat) (ds : List Deferred) (M0 : Mem) (ρ0 : Names) (w0 : World) (S0 : Store) (n0 : Nat) (A : Env) (S : Store) (n : Nat) (a : Act) (w : World) (M : Mem) (ρ : Names) : Prop where
 inv : Inv M ρ S.get w
 env : RelA M ρ N ds A.get a
 adv : Adv M0 ρ0 S0.get w0 n0 n M ρ S.get w
 free : ∀ id, n <= id -> ρ id = none
 le : n0 <= n
theorem region_draw {r : Option Nat} {m : Nat} (hm : P.follows .mixedOrders = true) {G : Gs} {N : Nat} {ds : List Deferred} {ops : Array Oper} {K : Env -> Store -> Nat -> List (List Nat × List Nat) -> Prop} {A : Env} {S : Store} {n : Nat}
  (h : TR P G N ops K 0 A S n []) {M : Mem} {ρ : Names} {w : World} {a : Act} (hI : Inv M ρ S.get w) (hA : RelA M ρ N ds A.get a) (hG : GOK G M) (hn : ∀ id, n <= id -> ρ id = none) (hK : ∀ A S n log, K A S n log -> drawOK ops log = true) (id : Nat) :
  (Code.region id ops true).wpIn (FW r) m P (fun e a' w' => e = .normal /\ ∃ A' S' n' log M' ρ', K A' S' n' log /\ After P G N ds M ρ w S n A' S' n' a' w' M' ρ') a w := by
 obtain ⟨st, ef0, h0, hT0, hK0⟩ := h.data (Nat.zero_le _)
 let ef : Nat -> Option Eff := fun j => if j < ops.size then ef0 j else none
 have hT : ∀ j, j < ops.size -> TStep P G N ops j (st j) (ef j) (st (j + 1)) := by
  intro j hj
  have := hT0 j (Nat.zero_le _) hj
  simpa [ef, hj] using this
 have hefN : ∀ j, ops.size <= j -> ef j = none := fun j hj => by simp [ef]; omega
 have hlog : ((List.range' 0 (ops.size - 0)).map fun j => logOf (ef0 j)) = (List.range' 0 (ops.size - 0)).map fun j => logOf (ef j) := by
  apply List.map_congr_left
  intro j hj
  have := List.mem_range'_1.1 hj
  have hlt : j < ops.size := by omega
  simp [ef, hlt]
 rw [List.nil_append, hlog] at hK0
 have hd : DrawOK ops ef := drawOK_spec (hK _ _ _ _ hK0)
 obtain ⟨tA, tS, tn⟩ := text_state hT ops.size (Nat.le_refl _)
 have hsz : ∀ j, (Array.replicate ops.size false).getD j false = false := by
  intro j
  rw [Array.getD_eq_getD_getElem?]
  rcases Nat.lt_or_ge j ops.size with h | h
  ·simp [h]
  ·simp [Array.getElem?_eq_none, h]
 have hL0 : Lof (Array.replicate ops.size false) = fun _ => false := funext hsz
 have hA0 : ∀ m t, Aof ops (st 0).A.get ef (fun _ => false) m t = (st 0).A.get t := by
  intro m t
  induction m with
  | zero => rfl
  | succ m ih => rw [Aof, if_neg (by simp), ih]
 have hg0 : ∀ m, gof (st 0).S.get ef (fun _ => false) m = (st 0).S.get := by
  intro m
  induction m with
  | zero => rfl
  | succ m ih => funext id; rw [gof, ih]; simp
 have hst0 : (st 0).A = A /\ (st 0).S = S /\ (st 0).n = n := by rw [h0]; exact ⟨rfl, rfl, rfl⟩
 refine wpIn_region_any hm ?_
 refine any_of (G := G) (N := N) (ds := ds) (st := st) (ef := ef) (M0 := M) (ρ0 := ρ) (w0 := w) hT hefN hd hG (by rw [hst0.2.2]; exact hn) ?_ ops.size _ _ _ M ρ (by simp) (Nat.le_trans List.countP_le_length (by simp)) ?_ ?_
 ·intro a' w' M' ρ' hR
  refine ⟨rfl, _, _, _, _, M', ρ', hK0, ?_⟩
  have e1 : gof (st 0).S.get ef (fun _ => true) ops.size = (st ops.size).S.get := tS
  have e2 : Aof ops (st 0).A.get ef (fun _ => true) ops.size = (st ops.size).A.get := funext tA
  refine ⟨by rw [<- e1]; exact hR.inv, by rw [<- e2]; exact hR.env, ?_, fun id hid => ?_, by rw [<- hst0.2.2]; exact tn⟩
  ·have := hR.adv
   rw [e1, hst0.2.1, hst0.2.2] at this
   exact this
  ·cases hρ : ρ' id with
   | none => rfl
   | some v =>
     exfalso
     rcases hR.free id (by simp [hρ]) with h | ⟨j, h1, _, _, h3⟩
     · exact h (hn id (by rw [<- hst0.2.2]; omega))
     · have := n_mono hT (j + 1) ops.size (by omega) (Nat.le_refl _); omega
 ·rw [hL0]; intro j o e _ h; cases h
 ·rw [hL0]
  refine ⟨?_, ?_, ?_, fun id hid => .inl hid⟩
  ·rw [hg0, hst0.2.1]
   exact ⟨hI.mem, fun id o ho => by
    obtain ⟨v, h1, h2⟩ := hI.obj id o ho
    exact ⟨v, h1, SObj.ok_keep (o := o) (w := w) h2 (Mem.le_refl _) (Names.le_refl _) (fun _ => rfl) fun b _ => ⟨rfl, fun _ h => h⟩⟩, hI.apart, hI.one, hI.stat⟩
  ·rw [show Aof ops (st 0).A.get ef (fun _ => false) ops.size = A.get from funext fun t => by rw [hA0, hst0.1]]
   exact hA
  ·rw [hg0, hst0.2.1]
   have := (Adv.refl M ρ S.get w (st 0).n).range (Nat.le_refl _) tn
   exact { this with }
end Go.Abs
namespace Go.Abs
variable {P : Program}
theorem After.refl {G : Gs} {N : Nat} {ds : List Deferred} {A : Env} {S : Store} {n : Nat} {M : Mem} {ρ : Names} {w : World} {a : Act} (hI : Inv M ρ S.get w) (hA : RelA M ρ N ds A.get a) (hn : ∀ id, n <= id -> ρ id = none) :
 After P G N ds M ρ w S n A S n a w M ρ := ⟨hI, hA, Adv.refl _ _ _ _ _, hn, Nat.le_refl _⟩
theorem After.trans {G : Gs} {N : Nat} {ds : List Deferred} {M0 ρ0 w0 S0 n0 A1 S1 n1 a1 w1 M1 ρ1 A2 S2 n2 a2 w2 M2 ρ2} (h : After P G N ds M0 ρ0 w0 S0 n0 A1 S1 n1 a1 w1 M1 ρ1) (k : After P G N ds M1 ρ1 w1 S1 n1 A2 S2 n2 a2 w2 M2 ρ2) :
 After P G N ds M0 ρ0 w0 S0 n0 A2 S2 n2 a2 w2 M2 ρ2 := ⟨k.inv, k.env, h.adv.trans k.adv h.le k.le, k.free, Nat.le_trans h.le k.le⟩
theorem put_fun (A : Env) (d : Option Nat) (v : PV) : (put A d v).get = fun t => if d = some t then v else A.get t := funext fun t => put_get A d v t
theorem wpOpsIn_mono {F : Fence} {m : Nat} {ops : Array Oper} {Q Q' : Exit -> Act -> World -> Prop} (h : ∀ e a w, Q e a w -> Q' e a w) (l : List Nat) (a : Act) (w : World) (hh : wpOpsIn F m P ops Q l a w) : wpOpsIn F m P ops Q' l a w := by
 induction l generalizing a w with
 | nil => exact h _ _ _ hh
 | cons i l ih =>
   rw [wpOpsIn_cons] at hh ⊢
   unfold wpOpIn at *
   split
   · rename_i ho; simp only [ho] at hh; exact ih _ _ hh
   · rename_i o ho
     simp only [ho] at hh
     split
     · rename_i hw
       simp only [hw, if_true] at hh
       refine ⟨hh.1, ?_⟩
       have hh := hh.2
       generalize (o.semAt F.round a.eval).run P w = r at *
       cases r with
       | ok n w' =>
         cases n <;> simp only [Oper.uponIn] at hh ⊢ <;>
           first
             | exact ih _ _ hh
             | exact ⟨hh.1, CallsIn.mono hh.2 (fun e w'' he => by cases e <;> first | exact ih _ _ he | exact h _ _ _ he | (obtain ⟨a1, w1, h1⟩ := he; exact ⟨a1, w1, h _ _ _ h1⟩))⟩
             | exact ⟨hh.1, RowsIn.mono hh.2 (fun _ _ he => ih _ _ he)⟩
             | exact ⟨hh.1, RoundIn.mono hh.2 (fun e w'' he => by cases e <;> first | exact ih _ _ he | exact h _ _ _ he | (obtain ⟨a1, w1, h1⟩ := he; exact ⟨a1, w1, h _ _ _ h1⟩))⟩
       | halt x w' => cases x <;> simp only [Oper.uponIn] at hh ⊢ <;> first | exact hh | exact h _ _ _ hh
     · rename_i hw
       simp only [hw] at hh
       exact ⟨hh.1, ih _ _ hh.2⟩
theorem region_text {r : Option Nat} {m : Nat} {G : Gs} {N : Nat} {ds : List Deferred} {ops : Array Oper} {K : Env -> Store -> Nat -> List (List Nat × List Nat) -> Prop} {i : Nat} {A : Env} {S : Store} {n : Nat} {log : List (List Nat × List Nat)}
  (h : TR P G N ops K i A S n log) : i <= ops.size -> ∀ {M : Mem} {ρ : Names} {w : World} {a : Act}, Inv M ρ S.get w -> RelA M ρ N ds A.get a -> GOK G M -> (∀ id, n <= id -> ρ id = none) ->
  wpOpsIn (FW r) m P ops (fun e a' w' => e = .normal /\ ∃ A' S' n' log M' ρ', K A' S' n' log /\ After P G N ds M ρ w S n A' S' n' a' w' M' ρ') (List.range' i (ops.size - i)) a w := by
 have hguard : ∀ {A : Env} {M : Mem} {ρ : Names} {a : Act} {o : Oper} {b : Bool}, RelA M ρ N ds A.get a -> GuardP ops A o.guard b -> Region.wanted o (yielded ops a.tmps) = b := by
  intro A M ρ a o b hA hb
  exact wanted_of (M := M) (ρ := ρ) (N := N) (fun g w' hg og d hog hdd => hA.slot d) hb
 induction h with
 | @done i A S n log hi hK =>
   intro hle M ρ w a hI hA hG hn
   rw [show ops.size - i = 0 by omega]
   exact ⟨rfl, A, S, n, log, M, ρ, hK, After.refl hI hA hn⟩
 | @skip i A S n log o ho hs hg _ ih =>
   intro hle M ρ w a hI hA hG hn
   have hlt := lt_of_get ho
   rw [show ops.size - i = ops.size - (i + 1) + 1 by omega, List.range'_succ, wpOpsIn_cons]
   unfold wpOpIn
   simp only [ho, hguard hA hg, Bool.false_eq_true, if_false]
   have h1 : RelA M ρ N ds (put A o.dst (.tuple .nil)).get (a.put o.dst Go.undef) := by
     rw [put_fun]; exact hA.put hs ⟨rfl, [], rfl, by simp, rfl⟩
   have := ih (by omega) hI h1 hG hn
   exact ⟨fun _ _ => trivial, this⟩
 | @exec i A S n log o E ho hs hg hE hC _ ih =>
   intro hle M ρ w a hI hA hG hn
   have hlt := lt_of_get ho
   rw [show ops.size - i = ops.size - (i + 1) + 1 by omega, List.range'_succ, wpOpsIn_cons]
   unfold wpOpIn
   simp only [ho, hguard hA hg, if_true]
   have hfree : ∀ id, n <= id -> id < E.n -> ρ id = none := fun id h _ => hn id h
   have hrun := hE.2.2 o M ρ w a.eval rfl (fun _ => rfl) (hI.only E.F) hfree (fun x _ => hA.opnd hG x) hC hG
   refine hrun.wp fun v w' ⟨M', ρ', hA', hI', hv⟩ => ?_
   obtain ⟨k1, k2⟩ := frame hI hA' hI' hfree
   have hgeq : over E.F n E.n (updW (only S.get E.F) E.W) S.get = (setAll S E.W).get := by
     rw [get_setAll]
     funext id
     unfold over
     split
     · rename_i hid
       rw [updW_wv, updW_wv]
       cases hwv : wv E.W id with
       | some o' => rfl
       | none =>
         simp only [Option.getD_none]
         unfold only
         split
         · rfl
         · rename_i hnF
           rcases hid with hid | hid
           · exact absurd hid hnF
           · cases hgo : S.get id with
             | none => rfl
             | some o' =>
               obtain ⟨v', hv', _⟩ := hI.obj id o' hgo
               rw [hfree id hid.1 hid.2] at hv'; cases hv'
     · rename_i hid
       rw [updW_wv, wv_none (fun x hx e => hid ?_)]
       · rfl
       · rcases hE.2.1 x hx with h | h
         · exact .inl (e ▸ h)
         · exact .inr (e ▸ h)
   rw [hgeq] at k1 k2
   have hfree' : ∀ id, E.n <= id -> ρ' id = none := by
     intro id hid
     cases hρ : ρ' id with
     | none => rfl
     | some u =>
       exfalso
       have := hA'.fresh id (hn id (Nat.le_trans hE.1 hid)) (by simp [hρ])
       omega
   have h1 : RelA M' ρ' N ds (put A o.dst E.v).get (a.put o.dst v) := by
     rw [put_fun]; exact (hA.mono hA'.mem hA'.names).put hs hv
   have h2 := ih (by omega) k1 h1 (hG.mono hA'.mem) hfree'
   have hstep : After P G N ds M ρ w S n (put A o.dst E.v) (setAll S E.W) E.n (a.put o.dst v) w' M' ρ' := ⟨k1, h1, k2, hfree', hE.1⟩
   refine wpOpsIn_mono ?_ _ _ _ h2
   rintro e a' w'' ⟨rfl, A', S', n', log', M'', ρ'', hK', hAf⟩
   exact ⟨rfl, A', S', n', log', M'', ρ'', hK', hstep.trans hAf⟩
end Go.Abs
namespace Go.Abs
variable {P : Program}
def It.item : It -> Item
 | .code c => .code c
 | .inBlock id => .inBlock id
 | .inScope c => .inScope c
 | .inLoop c => .inLoop c
 | .begin => .beginRound
 | .ops .. => .code (.refuse "")
 | .done _ => .code (.refuse "")
def plainK : List It -> Bool
 | [] => true
 | .ops .. :: _ => false
 | .done _ :: _ => false
 | _ :: k => plainK k
def mark (D : Nat) : Deferred := { target := .collected D, args := #[] }
def Idle (ρ : Names) (S : Store) (w : World) (Ds : List Nat) : Prop := Ds.Nodup /\ ∀ D ∈ Ds, w.heap[D]? = some (.deferred (some [])) /\ ¬ occ ρ S.get D
structure Fin (n0 : Nat) (Ds0 : List Nat) (M0 : Mem) (ρ0 : Names) (w0 : World) (S0 : Store) (S : Store) (Ds : List Nat) (w : World) (M : Mem) (ρ : Names) : Prop where
 inv : Inv M ρ S.get w
 idle : Idle ρ S w Ds
 dnew : ∀ D ∈ Ds, D ∈ Ds0 \/ w0.heap.size <= D
 mem : M0.le M
 names : ∀ id, id < n0 -> ρ id = ρ0 id
 os : w.os = w0.os
 tape : w.tape = w0.tape
 output : w.output = w0.output
 size : w0.heap.size <= w.heap.size
 heap : ∀ b, b < w0.heap.size -> ¬ occ ρ0 S0.get b -> w.heap[b]? = w0.heap[b]?
 blks : ∀ b, occ ρ S.get b -> w0.heap.size <= b \/ occ ρ0 S0.get b
 mnew : ∀ b i, M b i ≠ none -> M0 b i = none -> w0.heap.size <= b \/ occ ρ0 S0.get b
 mst : M.stat = M0.stat
theorem After.idle {G : Gs} {N : Nat} {ds : List Deferred} {M0 ρ0 w0 S0 n A1 S1 n1 a1 w1 M1 ρ1} (h : After P G N ds M0 ρ0 w0 S0 n A1 S1 n1 a1 w1 M1 ρ1) {Ds : List Nat} (hi : Idle ρ0 S0 w0 Ds) : Idle ρ1 S1 w1 Ds := by
 refine ⟨hi.1, fun D hD => ?_⟩
 obtain ⟨h1, h2⟩ := hi.2 D hD
 have hlt : D < w0.heap.size := lt_of_get h1
 refine ⟨(h.adv.heap D hlt h2).trans h1, fun ho => ?_⟩
 rcases h.adv.blks D ho with h' | h'
 ·omega
 ·exact h2 h'
theorem After.fin {G : Gs} {N n0 : Nat} {ds : List Deferred} {M0 ρ0 w0 S0 n A1 S1 n1 a1 w1 M1 ρ1} (h : After P G N ds M0 ρ0 w0 S0 n A1 S1 n1 a1 w1 M1 ρ1) (hn : n0 <= n) {Ds : List Nat} (hi : Idle ρ0 S0 w0 Ds) : Fin n0 Ds M0 ρ0 w0 S0 S1 Ds w1 M1 ρ1 where
 inv := h.inv
 idle := h.idle hi
 dnew := fun D hD => .inl hD
 mem := h.adv.mem
 names := fun id hid => by
  cases h0 : ρ0 id with
  | some v => exact h.adv.names _ _ h0
  | none =>
    cases h1 : ρ1 id with
    | none => rfl
    | some v => have := h.adv.fresh id h0 (by simp [h1]); omega
 os := h.adv.os
 tape := h.adv.tape
 output := h.adv.output
 size := h.adv.size
 heap := h.adv.heap
 blks := h.adv.blks
 mnew := h.adv.mnew
 mst := h.adv.mst
theorem Fin.trans {n0 : Nat} {D0 D1 D2 : List Nat} {M0 ρ0 w0 S0 S1 w1 M1 ρ1 S2 w2 M2 ρ2} (h : Fin n0 D0 M0 ρ0 w0 S0 S1 D1 w1 M1 ρ1) (k : Fin n0 D1 M1 ρ1 w1 S1 S2 D2 w2 M2 ρ2) : Fin n0 D0 M0 ρ0 w0 S0 S2 D2 w2 M2 ρ2 where
 inv := k.inv
 idle := k.idle
 dnew := fun D hD => by
  rcases k.dnew D hD with h' | h'
  ·exact h.dnew D h'
  ·exact .inr (Nat.le_trans h.size h')
 mem := Mem.le_trans h.mem k.mem
 names := fun id hid => (k.names id hid).trans (h.names id hid)
 os := k.os.trans h.os
 tape := k.tape.trans h.tape
 output := k.output.trans h.output
 size := Nat.le_trans h.size k.size
 heap := fun b hb ho => by
  rw [k.heap b (by have := h.size; omega) (fun ho1 => by rcases h.blks b ho1 with h' | h'; omega; exact ho h'), h.heap b hb ho]
 blks := fun b ho => by
  rcases k.blks b ho with h' | h'
  ·exact .inl (by have := h.size; omega)
  ·exact h.blks b h'
 mnew := fun b i h2 h0 => by
  by_cases h' : M1 b i = none
  ·rcases k.mnew b i h2 h' with h'' | h''
   ·exact .inl (by have := h.size; omega)
   ·exact h.blks b h''
  ·exact h.mnew b i h' h0
 mst := k.mst.trans h.mst
def Post (P : Program) (X : Ctx) (fn : Func) (e : Exit) (tmps : Array Value) (M : Mem) (ρ : Names) (S : Store) (v : PV) : Prop :=
 if X.rd = true then (e = .normal /\ v = .tt) \/ (e = .ret /\ v = .ff) \/ ∃ id : Nat, e = .exit id /\ v = .int .i64 fun _ => (id : Int)
 else e = .ret /\ ∀ w, Inv M ρ S.get w -> ∃ u, (results fn tmps).run P w = .ok u w /\ rel M v ρ .val [u]
theorem Post.e {X : Ctx} {fn : Func} {e : Exit} {tmps : Array Value} {M : Mem} {ρ : Names} {S : Store} {v : PV} (h : Post P X fn e tmps M ρ S v) : e = .normal \/ e = .ret \/ ∃ id, e = .exit id := by
 unfold Post at h
 split at h
 ·rcases h with ⟨h, _⟩ | ⟨h, _⟩ | ⟨id, h, _⟩
  ·exact .inl h
  ·exact .inr (.inl h)
  ·exact .inr (.inr ⟨id, h⟩)
 ·exact .inr (.inl h.1)
def RndOK (X : Ctx) (b : Frame) (ρ : Names) : Prop := ∀ l, b.roundOf = some l -> X.lid < X.n0 /\ ρ X.lid = some (.pointer (some ⟨l, 0, none⟩))
def Mach (P : Program) (X : Ctx) (fn : Func) (Q : PV -> Store -> Prop) (k : List It) (A : Env) (S : Store) (n : Nat) : Prop :=
 ∀ (M : Mem) (ρ : Names) (w : World) (a : Act) (b : Frame) (cs : List Frame) (Ds : List Nat), b.roundOf.isSome = X.rd -> RndOK X b ρ -> GOK X.G M -> Inv M ρ S.get w -> (∀ id, n <= id -> ρ id = none) -> X.n0 <= n -> Idle ρ S w Ds -> RelA M ρ X.N (Ds.map mark) A.get a ->
   ∃ e a' w' M' ρ' v S' Ds', ArrivesIn (Machine.fenced P Fence.wide) P (lone (b.atR a (k.map It.item)) cs w) b [] cs e a' w' /\ a'.defers = Ds'.map mark /\
     Fin X.n0 Ds M ρ w S S' Ds' w' M' ρ' /\ Post P X fn e a'.tmps M' ρ' S' v /\ Q v S'
def Run (P : Program) (X : Ctx) (fn : Func) (Q : PV -> Store -> Prop) : List It -> Env -> Store -> Nat -> Prop
 | .done v :: _, _, S, _ => Q v S
 | .ops d ops i log :: k, A, S, n => plainK k = true /\ TR P X.G X.N ops (fun A' S' n' log' => (d = true -> drawOK ops log' = true) /\ Run P X fn Q k A' S' n') i A S n log
 | k, A, S, n => plainK k = true /\ Mach P X fn Q k A S n
def RunC (P : Program) (X : Ctx) (fn : Func) (Q : PV -> Store -> Prop) (c : Cfg) : Prop := Run P X fn Q c.k c.A c.S c.n
structure OK (P : Program) (X : Ctx) (fn : Func) : Prop where
 T : TT P X.T
 mixed : P.follows .mixedOrders = true
 res : X.res = fn.results.toList
section
variable {X : Ctx} {fn : Func} {Q : PV -> Store -> Prop} {A : Env} {S : Store} {n : Nat}
theorem run_plain {k : List It} (hk : plainK k = true) : Run P X fn Q k A S n ↔ Mach P X fn Q k A S n := by
 cases k with
 | nil => simp [Run, plainK]
 | cons x k => cases x <;> simp_all [Run, plainK]
theorem mach_step {k k' : List It} (h : ∀ (a : Act) (b : Frame) (cs : List Frame) (w : World), step P (lone (b.atR a (k.map It.item)) cs w) = .next (lone (b.atR a (k'.map It.item)) cs w)) (hr : Mach P X fn Q k' A S n) : Mach P X fn Q k A S n := by
 intro M ρ w a b cs Ds hb hrn hG hI hn hm hd hA
 obtain ⟨e, a', w', M', ρ', v, S', Ds', h1, h2⟩ := hr M ρ w a b cs Ds hb hrn hG hI hn hm hd hA
 exact ⟨e, a', w', M', ρ', v, S', Ds', ArrivesIn.of_steps (stepsIn_wide.2 (Steps.one (h a b cs w))) h1, h2⟩
theorem mach_step_of {k k' : List It} (h : ∀ (M : Mem) (ρ : Names) (a : Act) (b : Frame) (cs : List Frame) (w : World) (ds : List Deferred), GOK X.G M -> RelA M ρ X.N ds A.get a -> step P (lone (b.atR a (k.map It.item)) cs w) = .next (lone (b.atR a (k'.map It.item)) cs w)) (hr : Mach P X fn Q k' A S n) :
  Mach P X fn Q k A S n := by
 intro M ρ w a b cs Ds hb hrn hG hI hn hm hd hA
 obtain ⟨e, a', w', M', ρ', v, S', Ds', h1, h2⟩ := hr M ρ w a b cs Ds hb hrn hG hI hn hm hd hA
 exact ⟨e, a', w', M', ρ', v, S', Ds', ArrivesIn.of_steps (stepsIn_wide.2 (Steps.one (h M ρ a b cs w _ hG hA))) h1, h2⟩
theorem steps_tail {m m1 m2 : Machine} (h : Steps P m m2) (h1 : step P m = .next m1) (hne : m ≠ m2) : Steps P m1 m2 := by
 obtain ⟨k, hk⟩ := h
 cases k with
 | zero => simp only [runN, Stepped.next.injEq] at hk; exact absurd hk hne
 | succ k => simp only [runN, h1] at hk; exact ⟨k, hk⟩
theorem frame_ne {b : Frame} {a a' : Act} {k k' : List Item} {cs cs' : List Frame} {w w' : World} (h : k ≠ k') : lone (b.atR a k) cs w ≠ lone (b.atR a' k') cs' w' := by
 intro e
 have := congrArg (fun m : Machine => (m.gs[0]?).map (·.frame.todo)) e
 simp [lone, Frame.atR] at this
 exact h this
theorem arr_loop {c : Code} {k : List Item} {b : Frame} {a : Act} {cs : List Frame} {w : World} {e : Exit} {a' : Act} {w' : World} (h : ArrivesIn (Machine.fenced P Fence.wide) P (lone (b.atR a (.inLoop c :: k)) cs w) b [] cs e a' w') (he : e = .normal \/ e = .ret \/ ∃ id, e = .exit id) :
  ArrivesIn (Machine.fenced P Fence.wide) P (lone (b.atR a (.code (.loop c) :: k)) cs w) b [] cs e a' w' := by
 have h2 : StepsIn (Machine.fenced P Fence.wide) P (lone (b.atR a (.code (.loop c) :: k)) cs w) (lone (b.atR a (.code c :: .inLoop c :: k)) cs w) := stepsIn_wide.2 (Steps.one stepR_loop)
 refine ArrivesIn.of_steps h2 ?_
 have key : ∀ m2, StepsIn (Machine.fenced P Fence.wide) P (lone (b.atR a (.inLoop c :: k)) cs w) m2 -> lone (b.atR a (.inLoop c :: k)) cs w ≠ m2 -> StepsIn (Machine.fenced P Fence.wide) P (lone (b.atR a (.code c :: .inLoop c :: k)) cs w) m2 :=
  fun m2 hs hne => stepsIn_wide.2 (steps_tail (stepsIn_wide.1 hs) stepR_inLoop hne)
 have hmode : ∀ (todo : List Item) (md : FrameMode), md ≠ .run -> lone (b.atR a (.inLoop c :: k)) cs w ≠ lone { b.atR a' todo with mode := md } cs w' := by
  intro todo md hmd e
  have := congrArg (fun m : Machine => (m.gs[0]?).map (·.frame.mode)) e
  simp [lone, Frame.atR] at this
  exact hmd this.symm
 cases e with
 | normal => exact key _ h (frame_ne (by simp))
 | exit id => exact ⟨fun k' hk => by simp [exitTo] at hk, fun h1 h2 => by
  obtain ⟨k1, e1, e2⟩ := h.2 h1 h2
  exact ⟨k1, e1, key _ e2 (frame_ne (by simp))⟩⟩
 | goto id => rcases he with h' | h' | ⟨_, h'⟩ <;> cases h'
 | ret => exact ⟨fun h1 => by
  obtain ⟨todo, e1⟩ := h.1 h1
  exact ⟨todo, key _ e1 (hmode _ _ (by simp))⟩, fun h1 => by
  obtain ⟨k1, e1⟩ := h.2 h1
  exact ⟨k1, key _ e1 (frame_ne (by simp))⟩⟩
 | panic ch => rcases he with h' | h' | ⟨_, h'⟩ <;> cases h'
 | outgrown => rcases he with h' | h' | ⟨_, h'⟩ <;> cases h'
theorem mach_loop {c : Code} {k : List It} (hr : Mach P X fn Q (.inLoop c :: k) A S n) : Mach P X fn Q (.code (.loop c) :: k) A S n := by
 intro M ρ w a b cs Ds hb hrn hG hI hn hm hd hA
 obtain ⟨e, a', w', M', ρ', v, S', Ds', h1, h2⟩ := hr M ρ w a b cs Ds hb hrn hG hI hn hm hd hA
 exact ⟨e, a', w', M', ρ', v, S', Ds', arr_loop h1 h2.2.2.1.e, h2⟩
theorem exitK_item (id : Nat) : ∀ (k k' : List It), plainK k = true -> exitK id k = some k' -> exitTo id (k.map It.item) = some (k'.map It.item) /\ plainK k' = true := by
 intro k
 induction k with
 | nil => intro k' _ h; simp [exitK] at h
 | cons x k ih =>
   intro k' hp h
   cases x
   case inBlock i =>
     simp only [exitK] at h
     simp only [plainK] at hp
     cases hb : beqN i id with
     | true =>
       simp only [hb, cond_true, Option.some.injEq] at h
       subst h
       obtain rfl : i = id := by simpa using hb
       exact ⟨by simp [exitTo, It.item], hp⟩
     | false =>
       simp only [hb, cond_false] at h
       obtain ⟨h1, h2⟩ := ih k' hp h
       have : (i == id) = false := by rw [beq_eq_false_iff_ne]; intro e; subst e; simp at hb
       exact ⟨by simp [exitTo, It.item, this, h1], h2⟩
   case ops => simp [plainK] at hp
   case done => simp [plainK] at hp
   all_goals
     simp only [exitK] at h
     simp only [plainK] at hp
     obtain ⟨h1, h2⟩ := ih k' hp h
     exact ⟨by simp [exitTo, It.item, h1], h2⟩
def resF (tmps : Array Value) : ResultVar -> Sem Value
 | .tmp t => Pure.pure (tmps.getD t Go.undef)
 | .cell a t => do loadVar t (<- asAddr (tmps.getD a Go.undef))
theorem results_eq (fn : Func) (tmps : Array Value) : results fn tmps = (do let vs <- fn.results.mapM (resF tmps); Pure.pure (if h : vs.size = 1 then vs[0] else .tuple vs)) := by
 unfold results
 congr 1
theorem resE_ok (hX : OK P X fn) {M : Mem} {ρ : Names} {w : World} {a : Act} (hI : Inv M ρ S.get w) {ds : List Deferred} (hA : RelA M ρ X.N ds A.get a) :
  ∀ (rs : List ResultVar) (l : List PV) (C : List (Unit -> Prop)), resE X.T A S rs = some (l, C) -> (∀ c ∈ C, c ()) ->
    ∃ us : List Value, (rs.mapM (resF a.tmps)).run P w = .ok us w /\ rel M (PV.ofList l) ρ .vals us /\ us.length = l.length := by
 intro rs
 induction rs with
 | nil =>
   intro l C h _
   simp only [resE, Option.some.injEq, Prod.mk.injEq] at h
   obtain ⟨rfl, rfl⟩ := h
   exact ⟨[], rfl, ⟨by simp, rfl⟩, rfl⟩
 | cons r rs ih =>
   intro l C h hC
   cases r with
   | tmp t =>
     simp only [resE] at h
     cases hr : resE X.T A S rs with
     | none => simp [hr] at h
     | some q =>
       obtain ⟨l', C'⟩ := q
       simp only [hr, Option.some.injEq, Prod.mk.injEq] at h
       obtain ⟨rfl, rfl⟩ := h
       obtain ⟨us, h1, h2, h3⟩ := ih l' C' hr hC
       refine ⟨a.tmps.getD t Go.undef :: us, ?_, .inr ⟨rfl, _, _, rfl, hA.slot t, h2⟩, by simp [h3]⟩
       rw [List.mapM_cons]
       simp only [resF, Sem.run_bind, Sem.run_pure, Result.andThen_ok, h1]
   | cell ad t =>
     simp only [resE] at h
     split at h
     · rename_i v F C1 l' C' hl hr
       simp only [Option.some.injEq, Prod.mk.injEq] at h
       obtain ⟨rfl, rfl⟩ := h
       obtain ⟨us, h1, h2, h3⟩ := ih l' C' hr (fun c hc => hC c (List.mem_append_right _ hc))
       obtain ⟨u, k1, k2⟩ := loadE_ok hX.T hl (fun c hc => hC c (List.mem_append_left _ hc)) (hI.only F) (hA.slot ad)
       refine ⟨u :: us, ?_, .inr ⟨rfl, _, _, rfl, k2, h2⟩, by simp [h3]⟩
       rw [List.mapM_cons]
       have hload : ((do loadVar t (<- asAddr (a.tmps.getD ad Go.undef)) : Sem Value)).run P w = .ok u w := by
         generalize a.tmps.getD ad Go.undef = vp at k1 ⊢
         unfold Instr.loadAt at k1
         cases vp with
         | pointer p =>
           cases p with
           | none => simp [Instr.sureAddr] at k1
           | some p => simpa [Instr.sureAddr, asAddr] using k1
         | _ => simp [Instr.sureAddr] at k1
       have hload' : (resF a.tmps (.cell ad t)).run P w = .ok u w := hload
       simp only [Sem.run_bind, hload', Result.andThen_ok, h1, Sem.run_pure]
     · cases h
theorem results_ok (hX : OK P X fn) {M : Mem} {ρ : Names} {w : World} {a : Act} (hI : Inv M ρ S.get w) {ds : List Deferred} (hA : RelA M ρ X.N ds A.get a) {l : List PV} {C : List (Unit -> Prop)} (h : resE X.T A S X.res = some (l, C)) (hC : ∀ c ∈ C, c ()) :
  ∃ u, (results fn a.tmps).run P w = .ok u w /\ rel M (resPV l) ρ .val [u] := by
 rw [hX.res] at h
 obtain ⟨us, h1, h2, h3⟩ := resE_ok hX hI hA _ _ _ h hC
 refine ⟨(if h : us.toArray.size = 1 then us.toArray[0] else .tuple us.toArray), ?_, ?_⟩
 ·rw [results_eq, Array.mapM_eq_mapM_toList]
  simp only [Sem.run_bind, Sem.run_map, h1, Result.andThen_ok, Sem.run_pure]
 ·match l, us, h2, h3 with
  | [], [], h2, _ => exact ⟨rfl, [], rfl, h2⟩
  | [v], [u], h2, _ =>
    rcases h2 with ⟨h', _⟩ | ⟨_, u', ws, e, k1, k2⟩
    · cases h'
    · simp only [List.cons.injEq] at e
      obtain ⟨rfl, rfl⟩ := e
      exact k1
  | v :: v' :: l, u :: u' :: us, h2, _ =>
    have hne : ¬ (u :: u' :: us).toArray.size = 1 := by simp
    rw [dif_neg hne]
    exact ⟨rfl, _, rfl, h2⟩
theorem post_fn (hX : OK P X fn) (hrd : X.rd = false) {l : List PV} {C : List (Unit -> Prop)} (h : resE X.T A S X.res = some (l, C)) (hC : ∀ c ∈ C, c ()) {M : Mem} {ρ : Names} {a : Act} {ds : List Deferred} (hA : RelA M ρ X.N ds A.get a) :
  Post P X fn .ret a.tmps M ρ S (resPV l) := by
 unfold Post
 rw [hrd, if_neg (by simp)]
 exact ⟨rfl, fun w hI => results_ok hX hI hA h hC⟩
theorem mach_ret (hX : OK P X fn) (hrd : X.rd = false) {k : List It} {l : List PV} {C : List (Unit -> Prop)} (h : resE X.T A S X.res = some (l, C)) (hC : ∀ c ∈ C, c ()) (hQ : Q (resPV l) S) : Mach P X fn Q (.code .ret :: k) A S n := by
 intro M ρ w a b cs Ds hb hrn hG hI hn hm hd hA
 have hbn : b.roundOf = none := by rw [hrd] at hb; simpa using hb
 refine ⟨.ret, a, w, M, ρ, _, S, Ds, ⟨fun _ => ⟨_, stepsIn_wide.2 (Steps.one (stepR_ret hbn))⟩, fun h => by rw [hb, hrd] at h; cases h⟩, hA.defers, (After.refl (P := P) (G := X.G) hI hA hn).fin hm hd, post_fn hX hrd h hC hA, hQ⟩
theorem mach_end (hX : OK P X fn) (hrd : X.rd = false) {l : List PV} {C : List (Unit -> Prop)} (h : resE X.T A S X.res = some (l, C)) (hC : ∀ c ∈ C, c ()) (hQ : Q (resPV l) S) : Mach P X fn Q [] A S n := by
 intro M ρ w a b cs Ds hb hrn hG hI hn hm hd hA
 have hbn : b.roundOf = none := by rw [hrd] at hb; simpa using hb
 refine ⟨.ret, a, w, M, ρ, _, S, Ds, ⟨fun _ => ⟨_, stepsIn_wide.2 (Steps.one (stepR_end hbn))⟩, fun h => by rw [hb, hrd] at h; cases h⟩, hA.defers, (After.refl (P := P) (G := X.G) hI hA hn).fin hm hd, post_fn hX hrd h hC hA, hQ⟩
theorem mach_rend (hrd : X.rd = true) (hQ : Q .tt S) : Mach P X fn Q [] A S n := by
 intro M ρ w a b cs Ds hb hrn hG hI hn hm hd hA
 refine ⟨.normal, a, w, M, ρ, _, S, Ds, stepsIn_wide.2 (Steps.refl _ _), hA.defers, (After.refl (P := P) (G := X.G) hI hA hn).fin hm hd, ?_, hQ⟩
 unfold Post; rw [if_pos hrd]; exact .inl ⟨rfl, rfl⟩
theorem mach_rret (hrd : X.rd = true) {k : List It} (hQ : Q .ff S) : Mach P X fn Q (.code .ret :: k) A S n := by
 intro M ρ w a b cs Ds hb hrn hG hI hn hm hd hA
 refine ⟨.ret, a, w, M, ρ, _, S, Ds, ⟨(fun h => by rw [hrd, h] at hb; cases hb), fun _ => ⟨_, stepsIn_wide.2 (Steps.refl _ _)⟩⟩, hA.defers, (After.refl (P := P) (G := X.G) hI hA hn).fin hm hd, ?_, hQ⟩
 unfold Post; rw [if_pos hrd]; exact .inr (.inl ⟨rfl, rfl⟩)
theorem exitK_none (id : Nat) : ∀ (k : List It), plainK k = true -> exitK id k = none -> exitTo id (k.map It.item) = none := by
 intro k
 induction k with
 | nil => intro _ _; rfl
 | cons x k ih =>
   intro hp h
   cases x
   case inBlock i =>
     simp only [exitK] at h
     simp only [plainK] at hp
     cases hb : beqN i id with
     | true => simp [hb] at h
     | false =>
       simp only [hb, cond_false] at h
       have : (i == id) = false := by rw [beq_eq_false_iff_ne]; intro e; subst e; simp at hb
       simp [exitTo, It.item, this, ih hp h]
   case ops => simp [plainK] at hp
   case done => simp [plainK] at hp
   all_goals
     simp only [exitK] at h
     simp only [plainK] at hp
     simp [exitTo, It.item, ih hp h]
theorem mach_rexit (hrd : X.rd = true) {k : List It} {id : Nat} (hk : plainK k = true) (he : exitK id k = none) (hQ : Q (.int .i64 fun _ => (id : Int)) S) : Mach P X fn Q (.code (.exit id) :: k) A S n := by
 intro M ρ w a b cs Ds hb hrn hG hI hn hm hd hA
 refine ⟨.exit id, a, w, M, ρ, _, S, Ds, ⟨fun k' h => by simp [exitTo] at h, fun _ _ => ⟨_, exitK_none id k hk he, stepsIn_wide.2 (Steps.refl _ _)⟩⟩, hA.defers, (After.refl (P := P) (G := X.G) hI hA hn).fin hm hd, ?_, hQ⟩
 unfold Post; rw [if_pos hrd]; exact .inr (.inr ⟨id, rfl, rfl⟩)
theorem mach_region (hX : OK P X fn) {id : Nat} {ops : Array Oper} {d : Bool} {k : List It} (hk : plainK k = true)
  (h : TR P X.G X.N ops (fun A' S' n' log' => (d = true -> drawOK ops log' = true) /\ Run P X fn Q k A' S' n') 0 A S n []) : Mach P X fn Q (.code (.region id ops d) :: k) A S n := by
 intro M ρ w a b cs Ds hb hrn hG hI hn hm hd hA
 have hwp : (Code.region id ops d).wpIn (FW b.roundOf) 0 P (fun e a' w' => e = .normal /\ ∃ A' S' n' log M' ρ', ((d = true -> drawOK ops log = true) /\ Run P X fn Q k A' S' n') /\ After P X.G X.N (Ds.map mark) M ρ w S n A' S' n' a' w' M' ρ') a w := by
  cases d with
  | true => exact region_draw hX.mixed h hI hA hG hn (fun _ _ _ _ hk => hk.1 rfl) id
  | false =>
    refine wpIn_region ?_
    have := region_text (r := b.roundOf) (m := 0) h (Nat.zero_le _) hI hA hG hn
    rw [List.range_eq_range']
    exact this
 obtain ⟨e, a1, w1, ⟨rfl, A1, S1, n1, log, M1, ρ1, ⟨_, hR⟩, hAf⟩, harr⟩ := hwp b (k.map It.item) cs rfl trivial (room_fw _ _)
 have hfin := hAf.fin hm hd
 obtain ⟨e, a', w', M', ρ', v, S', Ds', h1, h2, h3, h4⟩ := (run_plain hk).1 hR M1 ρ1 w1 a1 b cs Ds hb (fun l hl => ⟨(hrn l hl).1, (hfin.names _ (hrn l hl).1).trans (hrn l hl).2⟩) (hG.mono hAf.adv.mem) hAf.inv hAf.free (Nat.le_trans hm hAf.le) (hAf.idle hd) hAf.env
 exact ⟨e, a', w', M', ρ', v, S', Ds', ArrivesIn.of_steps harr h1, h2, hfin.trans h3, h4⟩
theorem mach_begin (hrd : X.rd = true) {k : List It} {r : Loop} (hS : S.get X.lid = some (.raw (.loop r))) (hr : r.state = .ready) (h : Mach P X fn Q k A (S.set X.lid (some (.raw (.loop { r with state := .busy })))) n) : Mach P X fn Q (.begin :: k) A S n := by
 intro M ρ w a b cs Ds hb hrn hG hI hn hm hd hA
 rw [hrd] at hb
 obtain ⟨l, hl⟩ := Option.isSome_iff_exists.1 hb
 obtain ⟨hlt, hρ⟩ := hrn l hl
 obtain ⟨v, hv, b', e1, h1, h2⟩ := hI.obj X.lid _ hS
 rw [hρ] at hv
 obtain rfl : v = _ := (Option.some.inj hv).symm
 simp only [Value.pointer.injEq, Option.some.injEq, Addr.mk.injEq, and_true] at e1
 subst e1
 have hbl : l < w.heap.size := lt_of_get h1
 have hM : ∀ i, M l i = none := by
  intro i
  cases hm' : M l i with
  | none => rfl
  | some u =>
    have := hI.mem l i u hm'
    simp [World.cell?, h1] at this
 obtain ⟨k1, k2⟩ := turn_obj (w' := w.putObj l (.loop { r with state := .busy })) (n := n) (o := .raw (.loop { r with state := .busy })) (hI.only [X.lid]) hS rfl rfl hρ rfl hM rfl rfl rfl (by simp [World.putObj]) (fun b' _ hne => World.putObj_heap_other hne)
  ⟨l, rfl, World.putObj_heap_same hbl, fun _ _ _ => by simp⟩
 obtain ⟨f1, f2⟩ := frame (n := n) (n' := n) hI k1 k2 (fun id h1 h2 => by omega)
 have hgeq : over [X.lid] n n (updW (only S.get [X.lid]) [(X.lid, some (.raw (.loop { r with state := .busy })))]) S.get = (S.set X.lid (some (.raw (.loop { r with state := .busy })))).get := by
  funext id
  rw [get_set]
  unfold over
  by_cases e : id = X.lid
  ·subst e; simp [updW]
  ·have : ¬ (n <= id /\ id < n) := by omega
   simp [e, this]
 rw [hgeq] at f1 f2
 have hAf : After P X.G X.N (Ds.map mark) M ρ w S n A (S.set X.lid (some (.raw (.loop { r with state := .busy })))) n a (w.putObj l (.loop { r with state := .busy })) M ρ := ⟨f1, hA, f2, hn, Nat.le_refl _⟩
 obtain ⟨e, a', w', M', ρ', v, S', Ds', h1', h2', h3, h4⟩ := h M ρ _ a b cs Ds (by rw [hrd]; exact hb) hrn hG f1 hn hm (hAf.idle hd) hA
 have hbeg : (Instr.beginRound l).run P w = .ok () (w.putObj l (.loop { r with state := .busy })) := run_beginRound h1 hr
 exact ⟨e, a', w', M', ρ', v, S', Ds', ArrivesIn.of_steps (stepsIn_wide.2 (Steps.one (stepR_beginRound hl hbeg))) h1', h2', (hAf.fin hm hd).trans h3, h4⟩
end
theorem stepR_scope {b : Frame} {a : Act} {k : List Item} {cs : List Frame} {w : World} {c : Code} : step P (lone (b.atR a (.code (.scope c) :: k)) cs w) = .next (lone (b.atR a (.code c :: .inScope c :: k)) cs w) :=
 step_lone_go (by simp [stepG, stepG.exec, Frame.atR])
theorem stepR_inScope {b : Frame} {a : Act} {k : List Item} {cs : List Frame} {w : World} {c : Code} : step P (lone (b.atR a (.inScope c :: k)) cs w) = .next (lone (b.atR a k) cs w) :=
 step_lone_go (by simp [stepG, stepG.exec, Frame.atR])
def wfK : List It -> Bool
 | .ops .. :: k => plainK k
 | .done _ :: _ => true
 | k => plainK k
theorem wf_plain {k : List It} (h : plainK k = true) : wfK k = true := by
 cases k with
 | nil => rfl
 | cons x k => cases x <;> simp_all [wfK, plainK]
theorem step1_ok {X : Ctx} {fn : Func} (hX : OK P X fn) {Q : PV -> Store -> Prop} {c c' : Cfg} {C : List (Unit -> Prop)} (hwf : wfK c.k = true) (h : step1 X c = some (c', C)) :
  wfK c'.k = true /\ ((∀ q ∈ C, q ()) -> RunC P X fn Q c' -> RunC P X fn Q c) := by
 obtain ⟨k, A, S, n⟩ := c
 simp only at hwf
 cases k with
 | nil =>
   simp only [step1] at h
   cases hrd : X.rd with
   | true =>
     simp only [hrd, cond_true, Option.some.injEq, Prod.mk.injEq] at h
     obtain ⟨rfl, rfl⟩ := h
     exact ⟨rfl, fun _ hr => ⟨rfl, mach_rend hrd hr⟩⟩
   | false =>
     simp only [hrd, cond_false] at h
     cases hq : resE X.T A S X.res with
     | none => simp [hq] at h
     | some q =>
       obtain ⟨l, C'⟩ := q
       simp only [hq, Option.some.injEq, Prod.mk.injEq] at h
       obtain ⟨rfl, rfl⟩ := h
       exact ⟨rfl, fun hC hr => ⟨rfl, mach_end hX hrd hq hC hr⟩⟩
 | cons x k =>
   cases x with
   | inBlock id =>
     simp only [step1, Option.some.injEq, Prod.mk.injEq] at h
     obtain ⟨rfl, rfl⟩ := h
     have hk : plainK k = true := hwf
     exact ⟨wf_plain hk, fun _ hr => ⟨hk, mach_step (fun _ _ _ _ => stepR_inBlock) ((run_plain hk).1 hr)⟩⟩
   | inScope id =>
     simp only [step1, Option.some.injEq, Prod.mk.injEq] at h
     obtain ⟨rfl, rfl⟩ := h
     have hk : plainK k = true := hwf
     exact ⟨wf_plain hk, fun _ hr => ⟨hk, mach_step (fun _ _ _ _ => stepR_inScope) ((run_plain hk).1 hr)⟩⟩
   | inLoop c => simp [step1] at h
   | done v => simp [step1] at h
   | begin =>
     have hk : plainK k = true := hwf
     simp only [step1] at h
     split at h
     · rename_i r hS
       cases hrd : X.rd with
       | false => simp [hrd] at h
       | true =>
         simp only [hrd, cond_true, Option.some.injEq, Prod.mk.injEq] at h
         obtain ⟨rfl, rfl⟩ := h
         exact ⟨wf_plain hk, fun hC hr => ⟨hk, mach_begin hrd hS (hC _ (List.mem_singleton.2 rfl)) ((run_plain hk).1 hr)⟩⟩
     · cases h
   | ops d ops i log =>
     have hk : plainK k = true := hwf
     simp only [step1] at h
     cases ho : ops[i]? with
     | none =>
       simp only [ho, Option.some.injEq, Prod.mk.injEq] at h
       obtain ⟨rfl, rfl⟩ := h
       refine ⟨wf_plain hk, fun hC hr => ⟨hk, .done (by simpa using ho) ⟨fun hd => ?_, hr⟩⟩⟩
       subst hd
       exact hC (fun _ => drawOK ops log = true) (by simp)
     | some o =>
       simp only [ho] at h
       cases hs : slotOK X.N o.dst with
       | false => simp [hs] at h
       | true =>
         simp only [hs, cond_true] at h
         cases hg : guardE ops A o.guard with
         | none => simp [hg] at h
         | some bg =>
           cases bg with
           | false =>
             simp only [hg, Option.some.injEq, Prod.mk.injEq] at h
             obtain ⟨rfl, rfl⟩ := h
             exact ⟨hk, fun _ hr => ⟨hk, .skip ho hs (guardE_P hg) hr.2⟩⟩
           | true =>
             simp only [hg] at h
             cases hE : opE X.T (opnd X.G.val A) S.get n o.op with
             | none => simp [hE] at h
             | some E =>
               simp only [hE, Option.some.injEq, Prod.mk.injEq] at h
               obtain ⟨rfl, rfl⟩ := h
               exact ⟨hk, fun hC hr => ⟨hk, .exec E ho hs (guardE_P hg) (opE_ok hX.T hE) hC hr.2⟩⟩
   | code c =>
     have hk : plainK k = true := hwf
     cases c with
     | seq x y =>
       simp only [step1, Option.some.injEq, Prod.mk.injEq] at h
       obtain ⟨rfl, rfl⟩ := h
       have hk' : plainK (.code x :: .code y :: k) = true := hk
       exact ⟨wf_plain hk', fun _ hr => ⟨hk, mach_step (fun _ _ _ _ => stepR_seq) ((run_plain hk').1 hr)⟩⟩
     | skip =>
       simp only [step1, Option.some.injEq, Prod.mk.injEq] at h
       obtain ⟨rfl, rfl⟩ := h
       exact ⟨wf_plain hk, fun _ hr => ⟨hk, mach_step (fun _ _ _ _ => stepR_skip) ((run_plain hk).1 hr)⟩⟩
     | label l =>
       simp only [step1, Option.some.injEq, Prod.mk.injEq] at h
       obtain ⟨rfl, rfl⟩ := h
       exact ⟨wf_plain hk, fun _ hr => ⟨hk, mach_step (fun _ _ _ _ => stepR_label) ((run_plain hk).1 hr)⟩⟩
     | block id c =>
       simp only [step1, Option.some.injEq, Prod.mk.injEq] at h
       obtain ⟨rfl, rfl⟩ := h
       have hk' : plainK (.code c :: .inBlock id :: k) = true := hk
       exact ⟨wf_plain hk', fun _ hr => ⟨hk, mach_step (fun _ _ _ _ => stepR_block) ((run_plain hk').1 hr)⟩⟩
     | scope c =>
       simp only [step1, Option.some.injEq, Prod.mk.injEq] at h
       obtain ⟨rfl, rfl⟩ := h
       have hk' : plainK (.code c :: .inScope c :: k) = true := hk
       exact ⟨wf_plain hk', fun _ hr => ⟨hk, mach_step (fun _ _ _ _ => stepR_scope) ((run_plain hk').1 hr)⟩⟩
     | loop c =>
       simp only [step1, Option.some.injEq, Prod.mk.injEq] at h
       obtain ⟨rfl, rfl⟩ := h
       have hk' : plainK (.inLoop c :: k) = true := hk
       exact ⟨wf_plain hk', fun _ hr => ⟨hk, mach_loop ((run_plain hk').1 hr)⟩⟩
     | ret =>
       simp only [step1] at h
       cases hrd : X.rd with
       | true =>
         simp only [hrd, cond_true, Option.some.injEq, Prod.mk.injEq] at h
         obtain ⟨rfl, rfl⟩ := h
         exact ⟨rfl, fun _ hr => ⟨hk, mach_rret hrd hr⟩⟩
       | false =>
         simp only [hrd, cond_false] at h
         cases hq : resE X.T A S X.res with
         | none => simp [hq] at h
         | some q =>
           obtain ⟨l, C'⟩ := q
           simp only [hq, Option.some.injEq, Prod.mk.injEq] at h
           obtain ⟨rfl, rfl⟩ := h
           exact ⟨rfl, fun hC hr => ⟨hk, mach_ret hX hrd hq hC hr⟩⟩
     | exit id =>
       simp only [step1] at h
       cases hq : exitK id k with
       | none =>
         cases hrd : X.rd with
         | false => simp [hq, hrd] at h
         | true =>
           simp only [hq, hrd, cond_true, Option.some.injEq, Prod.mk.injEq] at h
           obtain ⟨rfl, rfl⟩ := h
           exact ⟨rfl, fun _ hr => ⟨hk, mach_rexit hrd hk hq hr⟩⟩
       | some k' =>
         simp only [hq, Option.some.injEq, Prod.mk.injEq] at h
         obtain ⟨rfl, rfl⟩ := h
         obtain ⟨h1, h2⟩ := exitK_item id k k' hk hq
         exact ⟨wf_plain h2, fun _ hr => ⟨hk, mach_step (fun _ _ _ _ => stepR_exit h1) ((run_plain h2).1 hr)⟩⟩
     | cond q x y =>
       have hstep : ∀ (t : Bool), (opnd X.G.val A q = if t then .tt else .ff) -> ∀ (M : Mem) (ρ : Names) (a : Act) (b : Frame) (cs : List Frame) (w : World) (ds : List Deferred), GOK X.G M -> RelA M ρ X.N ds A.get a ->
           step P (lone (b.atR a ((It.code (.cond q x y) :: k).map It.item)) cs w) = .next (lone (b.atR a ((It.code (if t then x else y) :: k).map It.item)) cs w) := by
         intro t ht M ρ a b cs w ds hG hA
         have := hA.opnd hG q
         rw [ht] at this
         refine stepR_cond ?_
         cases t with
         | true => simpa [rel, one] using this
         | false => simpa [rel, one] using this
       simp only [step1] at h
       split at h
       · rename_i ht
         simp only [Option.some.injEq, Prod.mk.injEq] at h
         obtain ⟨rfl, rfl⟩ := h
         have hk' : plainK (.code x :: k) = true := hk
         exact ⟨wf_plain hk', fun _ hr => ⟨hk, mach_step_of (hstep true ht) ((run_plain hk').1 hr)⟩⟩
       · rename_i ht
         simp only [Option.some.injEq, Prod.mk.injEq] at h
         obtain ⟨rfl, rfl⟩ := h
         have hk' : plainK (.code y :: k) = true := hk
         exact ⟨wf_plain hk', fun _ hr => ⟨hk, mach_step_of (hstep false ht) ((run_plain hk').1 hr)⟩⟩
       · cases h
     | region id ops d =>
       simp only [step1, Option.some.injEq, Prod.mk.injEq] at h
       obtain ⟨rfl, rfl⟩ := h
       exact ⟨hk, fun _ hr => ⟨hk, mach_region hX hk hr.2⟩⟩
     | _ => simp [step1] at h
def conds : List (Unit -> Prop) -> Prop
 | [] => True
 | c :: r => c () /\ conds r
theorem conds_mem : ∀ {C : List (Unit -> Prop)}, conds C -> ∀ q ∈ C, q ()
 | c :: r, ⟨h, hr⟩, q, hq => by
   rcases List.mem_cons.1 hq with rfl | hq
   · exact h
   · exact conds_mem hr q hq
theorem conds_append : ∀ {C D : List (Unit -> Prop)}, conds (C ++ D) -> conds C /\ conds D
 | [], D, h => ⟨trivial, h⟩
 | c :: r, D, ⟨h, hr⟩ => ⟨⟨h, (conds_append hr).1⟩, (conds_append hr).2⟩
end Go.Abs
namespace Go.Abs
variable {P : Program}
def none0 : Sto := fun _ => none
def Env.enter : Nat -> PV -> Env
 | i, .cons x r => (i, x) :: Env.enter (i + 1) r
 | _, _ => []
def PV.count : PV -> Nat
 | .cons _ r => r.count + 1
 | _ => 0
theorem rel_list {M : Mem} {ρ : Names} : ∀ {args : PV} {vs : List Value}, rel M args ρ .vals vs -> vs.length = args.count /\
  ∀ i t, rel M ((Env.enter i args).get (i + t)) ρ .val [(vs[t]?).getD Go.undef] := by
 intro args
 induction args with
 | nil =>
   intro vs ⟨_, h⟩
   subst h
   exact ⟨rfl, fun i t => ⟨rfl, _, rfl⟩⟩
 | cons x r _ ih =>
   intro vs h
   rcases h with ⟨h', _⟩ | ⟨_, v, ws, rfl, h1, h2⟩
   · cases h'
   obtain ⟨k1, k2⟩ := ih h2
   refine ⟨by simp [PV.count, k1], fun i t => ?_⟩
   cases t with
   | zero => simpa [Env.enter, Env.get] using h1
   | succ t =>
     have hb : beqN i (i + (t + 1)) = false := nbeq (by omega)
     simp only [Env.enter, Env.get, hb, cond_false, List.getElem?_cons_succ]
     have := k2 (i + 1) t
     rwa [show i + 1 + t = i + (t + 1) by omega] at this
 | _ => intro vs h; exfalso; simp [rel, one] at h
structure Left (n0 : Nat) (M0 : Mem) (ρ0 : Names) (w0 : World) (g0 : Sto) (M : Mem) (ρ : Names) (w : World) (g : Sto) : Prop where
 inv : Inv M ρ g w
 mem : M0.le M
 names : ∀ id, id < n0 -> ρ id = ρ0 id
 os : w.os = w0.os
 tape : w.tape = w0.tape
 output : w.output = w0.output
 size : w0.heap.size <= w.heap.size
 heap : ∀ b, b < w0.heap.size -> ¬ occ ρ0 g0 b -> w.heap[b]? = w0.heap[b]?
 blks : ∀ b, occ ρ g b -> w0.heap.size <= b \/ occ ρ0 g0 b
 mnew : ∀ b i, M b i ≠ none -> M0 b i = none -> w0.heap.size <= b \/ occ ρ0 g0 b
 mst : M.stat = M0.stat
def unmark (w : World) : List Nat -> World
 | [] => w
 | D :: r => unmark (w.putObj D (.deferred none)) r
theorem unmark_size : ∀ (Ds : List Nat) (w : World), (unmark w Ds).heap.size = w.heap.size
 | [], _ => rfl
 | D :: r, w => by rw [unmark, unmark_size r]; simp
theorem unmark_other : ∀ (Ds : List Nat) (w : World) (b : Nat), b ∉ Ds -> (unmark w Ds).heap[b]? = w.heap[b]?
 | [], _, _, _ => rfl
 | D :: r, w, b, h => by
   rw [unmark, unmark_other r _ b (fun hb => h (by simp [hb])), World.putObj_heap_other (fun e => h (by simp [e]))]
theorem unmark_rest : ∀ (Ds : List Nat) (w : World), (unmark w Ds).os = w.os /\ (unmark w Ds).tape = w.tape /\ (unmark w Ds).output = w.output
 | [], _ => ⟨rfl, rfl, rfl⟩
 | D :: r, w => unmark_rest r _
theorem steps_unmark {b : Frame} {tmps : Array Value} {todo : List Item} {cs : List Frame} : ∀ (Ds : List Nat) (w : World), Ds.Nodup -> (∀ D ∈ Ds, w.heap[D]? = some (.deferred (some []))) ->
  Steps P (lone { b.atR ⟨tmps, Ds.map mark⟩ todo with mode := .returning } cs w) (lone { b.atR ⟨tmps, []⟩ todo with mode := .returning } cs (unmark w Ds))
 | [], w, _, _ => Steps.refl _ _
 | D :: r, w, hn, h => by
   obtain ⟨h1, h2⟩ := List.nodup_cons.1 hn
   refine Steps.head (step_collected (fr := { b.atR ⟨tmps, (D :: r).map mark⟩ todo with mode := .returning }) (d := mark D) (r := D) (ds := r.map mark) (calls := []) (by simp) rfl rfl (run_takeDeferred (h D (by simp)))) ?_
   exact steps_unmark r _ h2 fun D' hD' => (World.putObj_heap_other (fun e => by subst e; exact h1 hD')).trans (h D' (by simp [hD']))
theorem Inv.unmark {M : Mem} {ρ : Names} {S : Store} {w : World} {Ds : List Nat} (h : Inv M ρ S.get w) (hi : Idle ρ S w Ds) (hs : ∀ D ∈ Ds, M.stat D = none) : Inv M ρ S.get (unmark w Ds) := by
 refine ⟨fun b i v hm => ?_, fun id o ho => ?_, h.apart, h.one, fun b o ho => ⟨(unmark_other Ds w b fun hb => by rw [hs b hb] at ho; cases ho).trans (h.stat b o ho).1, (h.stat b o ho).2⟩⟩
 ·have hc := h.mem b i v hm
  have hb : b ∉ Ds := fun hb => by simp [World.cell?, (hi.2 b hb).1] at hc
  rw [cell_of_heap (unmark_other Ds w b hb)]; exact hc
 ·obtain ⟨v, hv, hok⟩ := h.obj id o ho
  refine ⟨v, hv, SObj.ok_keep (o := o) hok (Mem.le_refl _) (Names.le_refl _) (fun _ => rfl) fun b hb => ⟨unmark_other Ds w b fun hD => ?_, fun _ h => h⟩⟩
  exact (hi.2 b hD).2 ⟨id, o, ho, (has_V hv o b).2 hb⟩
theorem Fin.left {n0 : Nat} {M0 ρ0 w0 S0 S Ds w M ρ} (h0 : Inv M0 ρ0 (Store.get S0) w0) (h : Fin n0 [] M0 ρ0 w0 S0 S Ds w M ρ) : Left n0 M0 ρ0 w0 S0.get M ρ (unmark w Ds) S.get := by
 have hD : ∀ b, b < w0.heap.size -> b ∉ Ds := fun b hb hD => by
  rcases h.dnew b hD with h' | h'
  ·cases h'
  ·omega
 obtain ⟨e1, e2, e3⟩ := unmark_rest Ds w
 exact { inv := h.inv.unmark h.idle fun D hD' => (by
  rw [h.mst]
  cases hs : M0.stat D with
  | none => rfl
  | some o => exact absurd hD' (hD D (lt_of_get (h0.stat D o hs).1))), mem := h.mem, names := h.names, os := e1.trans h.os, tape := e2.trans h.tape, output := e3.trans h.output, size := by rw [unmark_size]; exact h.size, heap := fun b hb ho => (unmark_other Ds w b (hD b hb)).trans (h.heap b hb ho), blks := h.blks, mnew := h.mnew, mst := h.mst }
theorem calls_of_run {X : Ctx} {f : Nat} {fn : Func} {c : Code} {args : PV} {Q : PV -> Store -> Prop} (hrd : X.rd = false) (hf : P.funcs[f]? = some fn) (hb : fn.body = some c) (hN : fn.ntmps = X.N) (hle : args.count <= X.N)
  {S : Store} {n : Nat} (hm : X.n0 <= n) (h : RunC P X fn Q ⟨[.code c], Env.enter 0 args, S, n⟩) {M : Mem} {ρ : Names} {w : World} {vs : List Value} (hG : GOK X.G M) (hI : Inv M ρ S.get w) (hn : ∀ id, n <= id -> ρ id = none) (hr : rel M args ρ .vals vs) :
  Calls P f vs.toArray w fun e w' => ∃ M' ρ' v pv S', e = .returned v /\ Left X.n0 M ρ w S.get M' ρ' w' (Store.get S') /\ rel M' pv ρ' .val [v] /\ Q pv S' := by
 obtain ⟨hl, hs⟩ := rel_list hr
 intro cs
 let b : Frame := { (default : Frame) with fn := f, kind := .normal }
 let a : Act := { tmps := vs.toArray ++ Array.replicate (fn.ntmps - vs.toArray.size) Go.undef, defers := [] }
 have henter : Frame.enter P f vs.toArray .normal = b.atR a ([It.code c].map It.item) := by
  simp [Frame.enter, Frame.atR, hf, hb, b, a, It.item]
  rfl
 have hA : RelA M ρ X.N (([] : List Nat).map mark) (Env.enter 0 args).get a := by
  refine ⟨fun t => ?_, ?_, rfl⟩
  ·have := hs 0 t
   rw [Nat.zero_add] at this
   have e : a.tmps.getD t Go.undef = (vs[t]?).getD Go.undef := by
    rw [Array.getD_eq_getD_getElem?]
    show ((vs.toArray ++ Array.replicate (fn.ntmps - vs.toArray.size) Go.undef)[t]?).getD Go.undef = _
    rw [Array.getElem?_append]
    split
    ·rw [List.getElem?_toArray]
    ·rename_i hlt
     have hlt' : vs.length <= t := by simpa using hlt
     rw [Array.getElem?_replicate, List.getElem?_eq_none hlt']
     split <;> rfl
   rw [e]; exact this
  ·show (vs.toArray ++ Array.replicate (fn.ntmps - vs.toArray.size) Go.undef).size = X.N
   simp; omega
 have hbn : b.roundOf = none := rfl
 obtain ⟨e, a', w', M', ρ', v, S', Ds', h1, h2, h3, h4, h5⟩ := (run_plain (k := [.code c]) rfl).1 h M ρ w a b cs [] (by rw [hrd]; rfl) (fun l hl => by rw [hbn] at hl; cases hl) hG hI hn hm ⟨List.nodup_nil, fun D hD => by cases hD⟩ hA
 unfold Post at h4
 rw [hrd, if_neg (by simp)] at h4
 obtain ⟨rfl, h4⟩ := h4
 obtain ⟨todo, hst⟩ := h1.1 hbn
 have hL := h3.left hI
 obtain ⟨u, hu1, hu2⟩ := h4 _ hL.inv
 have ha' : a' = ⟨a'.tmps, Ds'.map mark⟩ := by rw [<- h2]
 have hst2 := (stepsIn_wide.1 hst).trans (by rw [ha']; exact steps_unmark (P := P) (b := b) (tmps := a'.tmps) (todo := todo) (cs := cs) Ds' w' h3.idle.1 (fun D hD => (h3.idle.2 D hD).1))
 rw [<- henter] at hst2
 exact ⟨.returned u, _, _, ⟨M', ρ', u, v, S', rfl, hL, hu2, h5⟩, hst2, rfl, rfl, rfl, rfl, fn, hf, hu1⟩
def Callable (P : Program) (f : Nat) : Prop := ∃ fn, P.funcs[f]? = some fn /\ (fn.name == "runtime.NumGoroutine") = false /\ fn.body.isNone = false
def PFun (P : Program) (G : Gs) (f : Nat) (args : PV) (r : PV) : Prop :=
 Callable P f /\ ∀ (M : Mem) (w : World) (vs : List Value), GOK G M -> Inv M noNames none0 w -> rel M args noNames .vals vs ->
  Calls P f vs.toArray w fun e w' => ∃ M' ρ' v g', e = .returned v /\ Left 0 M noNames w none0 M' ρ' w' g' /\ rel M' r noNames .val [v]
def SFun (P : Program) (G : Gs) (f : Nat) (args : PV) (S : Store) (n : Nat) (Q : PV -> Store -> Prop) : Prop :=
 Callable P f /\ ∀ (M : Mem) (ρ : Names) (w : World) (vs : List Value), GOK G M -> Inv M ρ S.get w -> (∀ id, n <= id -> ρ id = none) -> rel M args ρ .vals vs ->
  Calls P f vs.toArray w fun e w' => ∃ M' ρ' v pv S', e = .returned v /\ Left n M ρ w S.get M' ρ' w' (Store.get S') /\ rel M' pv ρ' .val [v] /\ Q pv S'
theorem PFun.use {G : Gs} {f : Nat} {args r : PV} (h : PFun P G f args r) {M : Mem} {ρ : Names} {g : Sto} {w : World} {n : Nat} {vs : List Value} (hG : GOK G M) (hI : Inv M ρ (only g []) w) (hr : rel M args noNames .vals vs) :
  Calls P f vs.toArray w fun e w' => ∃ v, e = .returned v /\ ∃ M', Adv M ρ (only g []) w n n M' ρ (only g []) w' /\ Inv M' ρ (only g []) w' /\ rel M' r noNames .val [v] := by
 have hemp : ∀ id o, only g [] id = some o -> False := fun id o ho => by simp [only] at ho
 have hI0 : Inv M noNames none0 w := ⟨hI.mem, fun id o ho => (by cases ho), fun id id' o o' ho => (by cases ho), fun id id' o o' ho => (by cases ho), fun b o ho => ⟨(hI.stat b o ho).1, fun ⟨_, _, h, _⟩ => by cases h⟩⟩
 refine (h.2 M w vs hG hI0 hr).mono ?_
 rintro e w' ⟨M', ρ', v, g', rfl, h1, h3⟩
 have hocc : ∀ b, ¬ occ noNames none0 b := fun b ⟨id, o, ho, _⟩ => by cases ho
 refine ⟨v, rfl, M', ⟨h1.mem, Names.le_refl _, fun id a b => absurd a b, h1.os, h1.tape, h1.output, h1.size, fun b hb _ => h1.heap b hb (hocc b), fun b ho => .inr ho, fun b i h h0 => ?_, fun h => ⟨rfl, h⟩, h1.mst⟩, ⟨h1.inv.mem, fun id o ho => (hemp id o ho).elim, fun id id' o o' ho => (hemp id o ho).elim, fun id id' o o' ho => (hemp id o ho).elim, fun b o ho => ⟨(h1.inv.stat b o ho).1, fun ⟨_, _, h, _⟩ => (hemp _ _ h).elim⟩⟩, h3⟩
 rcases h1.mnew b i h h0 with h' | h'
 ·exact .inl h'
 ·exact absurd h' (hocc b)
def argsE (e : Operand -> PV) : List Operand -> PV
 | [] => .nil
 | x :: r => .cons (e x) (argsE e r)
def PV.app : PV -> PV -> PV
 | .cons x r, s => .cons x (r.app s)
 | _, s => s
theorem rel_args {M : Mem} {ρ : Names} {e : Operand -> PV} {ev : Operand -> Value} : ∀ {l : List Operand}, (∀ x ∈ l, rel M (e x) ρ .val [ev x]) -> rel M (argsE e l) ρ .vals (l.map ev)
 | [], _ => ⟨by simp, rfl⟩
 | x :: l, h => .inr ⟨rfl, _, _, rfl, h x (by simp), rel_args fun y hy => h y (by simp [hy])⟩
theorem rel_app {M : Mem} {ρ : Names} : ∀ {a b : PV} {vs ws : List Value}, rel M a ρ .vals vs -> rel M b ρ .vals ws -> rel M (a.app b) ρ .vals (vs ++ ws) := by
 intro a
 induction a with
 | nil => intro b vs ws ⟨_, h⟩ k; subst h; exact k
 | cons x r _ ih =>
   intro b vs ws h k
   rcases h with ⟨h', _⟩ | ⟨_, v, us, rfl, h1, h2⟩
   · cases h'
   · exact .inr ⟨rfl, v, us ++ ws, rfl, h1, ih h2 k⟩
 | _ => intro b vs ws h; exfalso; simp [rel, one] at h
theorem call_ok {G : Gs} {e : Operand -> PV} {g : Sto} {n : Nat} {c : Call} {fv : Operand} {f : Nat} {first cap r : PV} (hc : c.callee = .value fv) (hfv : e fv = .func (.func f) first cap)
  (hp : ((first.app (argsE e c.args.toList)).app cap).pure = true) {C : List (Unit -> Prop)} (h : (∀ c ∈ C, c ()) -> PFun P G f ((first.app (argsE e c.args.toList)).app cap).strip r) : EffOK P G e g n (.call c) { v := r, n, C } := by
 refine ⟨Nat.le_refl _, fun y hy => (by cases hy), fun o M ρ w ev ho hev hI hfree hr hC hG => ?_⟩
 have hop : (Op.call c).operands.toList = fv :: c.args.toList := by simp [Op.operands, Call.operands, hc]
 rw [hop] at hr
 have h0 := hr fv (by simp)
 rw [hfv] at h0
 obtain ⟨fs, cs, h1, h2, h3⟩ := h0
 have h1' : ev fv = .func (.func f) fs.toArray cs.toArray := by simpa [one] using h1
 have hall := strip_rel _ hp (rel_app (rel_app h2 (rel_args (l := c.args.toList) fun x hx => hr x (by simp [hx]))) h3)
 have h := h hC
 obtain ⟨fn, hf, hname, hbody⟩ := h.1
 have hex : (execOp ev o).run P w = .ok (.enter f (fs ++ c.args.toList.map ev ++ cs).toArray) w := by
  unfold execOp
  simp only [ho, resolve, hc, Deferred.ofValue, h1', Sem.run_bind, Sem.run_pure, Result.andThen_ok, invoke, callFunc, run_program, hf, hname, hbody, Bool.false_eq_true, if_false]
  congr 2
  apply Array.ext'
  simp
 unfold OpR
 rw [hex]
 refine (h.use (n := n) hG hI hall).mono ?_
 rintro e' w' ⟨v, rfl, M', k1, k2, k3⟩
 exact ⟨v, rfl, M', ρ, k1, k2, rel_mono (Mem.le_refl _) _ (noNames_le ρ) k3⟩
end Go.Abs
namespace Go.Abs
variable {P : Program}
def Same (v v' : PV) : Prop := ∀ (M : Mem) (ρ : Names) (vs : List Value), rel M v ρ .val vs ↔ rel M v' ρ .val vs
def SameA (A A' : Env) : Prop := ∀ t, Same (A.get t) (A'.get t)
theorem Same.refl (v : PV) : Same v v := fun _ _ _ => Iff.rfl
theorem SameA.put {A A' : Env} (h : SameA A A') (d : Option Nat) (v : PV) : SameA (put A d v) (put A' d v) := by
 intro t
 rw [put_get, put_get]
 split
 ·exact Same.refl _
 ·exact h t
theorem SameA.opnd {A A' : Env} (h : SameA A A') (G : Gs) (x : Operand) : Same (opnd G.val A x) (opnd G.val A' x) := by
 cases x with
 | tmp t => exact h t
 | _ => exact Same.refl _
theorem SameA.guard {A A' : Env} (h : SameA A A') {ops : Array Oper} {g : Option (Nat × Bool)} {r : Bool} (k : GuardP ops A' g r) : GuardP ops A g r := by
 unfold GuardP at *
 cases g with
 | none => exact k
 | some q =>
   obtain ⟨o, d, h1, h2, h3⟩ := k
   exact ⟨o, d, h1, h2, h3.imp (fun h3 M ρ u hu => h3 M ρ u ((h d M ρ _).1 hu)) fun h3 => ⟨h3.1, fun M ρ u hu => h3.2 M ρ u ((h d M ρ _).1 hu)⟩⟩
theorem EffOK.same {G : Gs} {e e' : Operand -> PV} (h : ∀ x, Same (e x) (e' x)) {g : Sto} {n : Nat} {op : Op} {E : Eff} (k : EffOK P G e' g n op E) : EffOK P G e g n op E :=
 ⟨k.1, k.2.1, fun o M ρ w ev ho hev hI hfree hr hC hG => k.2.2 o M ρ w ev ho hev hI hfree (fun x hx => (h x M ρ _).1 (hr x hx)) hC hG⟩
theorem TR.same {G : Gs} {N : Nat} {ops : Array Oper} {K : Env -> Store -> Nat -> List (List Nat × List Nat) -> Prop} (hK : ∀ A A' S n log, SameA A A' -> K A' S n log -> K A S n log) {i : Nat} {A' : Env} {S : Store} {n : Nat} {log : List (List Nat × List Nat)}
  (h : TR P G N ops K i A' S n log) : ∀ {A : Env}, SameA A A' -> TR P G N ops K i A S n log := by
 induction h with
 | done hi hk => intro A hA; exact .done hi (hK _ _ _ _ _ hA hk)
 | skip ho hs hg _ ih => intro A hA; exact .skip ho hs (hA.guard hg) (ih (hA.put _ _))
 | exec E ho hs hg hE hC _ ih => intro A hA; exact .exec E ho hs (hA.guard hg) (hE.same (hA.opnd _)) hC (ih (hA.put _ _))
section
variable {X : Ctx} {fn : Func} {Q : PV -> Store -> Prop} {A A' : Env} {S S' : Store} {n n' : Nat}
theorem mach_else {k : List It} (hr : Mach P X fn Q k A S n) (h : ∀ (M : Mem) (ρ : Names) (w : World) (a : Act) (ds : List Deferred), GOK X.G M -> Inv M ρ S'.get w -> (∀ id, n' <= id -> ρ id = none) -> X.n0 <= n' -> RelA M ρ X.N ds A'.get a ->
  ∃ M2 ρ2, M.le M2 /\ Inv M2 ρ2 S.get w /\ (∀ id, n <= id -> ρ2 id = none) /\ X.n0 <= n /\ RelA M2 ρ2 X.N ds A.get a /\ (∀ id, id < X.n0 -> ρ2 id = ρ id) /\ (∀ b, occ ρ2 S.get b -> occ ρ S'.get b) /\ (∀ b i, M2 b i ≠ none -> M b i = none -> occ ρ S'.get b) /\ M2.stat = M.stat) : Mach P X fn Q k A' S' n' := by
 intro M ρ w a b cs Ds hb hrn hG hI hn hm hd hA
 obtain ⟨M2, ρ2, k1, k2, k3, k4, k5, k6, k7, k8, k9⟩ := h M ρ w a _ hG hI hn hm hA
 obtain ⟨e, a', w', M', ρ', v, S2, Ds', h1, h2, h3, h4⟩ := hr M2 ρ2 w a b cs Ds hb (fun l hl => ⟨(hrn l hl).1, (k6 _ (hrn l hl).1).trans (hrn l hl).2⟩) (hG.mono k1) k2 k3 k4 ⟨hd.1, fun D hD => ⟨(hd.2 D hD).1, fun ho => (hd.2 D hD).2 (k7 D ho)⟩⟩ k5
 refine ⟨e, a', w', M', ρ', v, S2, Ds', h1, h2, ⟨h3.inv, h3.idle, h3.dnew, Mem.le_trans k1 h3.mem, fun id hid => (h3.names id hid).trans (k6 id hid), h3.os, h3.tape, h3.output, h3.size, fun b hb ho => h3.heap b hb fun h => ho (k7 b h), fun b hb => (h3.blks b hb).imp _root_.id (k7 b), fun b i h h' => ?_, h3.mst.trans k9⟩, h4⟩
 by_cases h0 : M2 b i = none
 ·exact (h3.mnew b i h h0).imp _root_.id (k7 b)
 ·exact .inr (k8 b i h0 h')
theorem RelA.same {M : Mem} {ρ : Names} {N : Nat} {ds : List Deferred} {a : Act} (h : SameA A A') (k : RelA M ρ N ds A.get a) : RelA M ρ N ds A'.get a :=
 ⟨fun t => (h t M ρ _).1 (k.slot t), k.size, k.defers⟩
theorem Mach.same {k : List It} (h : SameA A A') (hr : Mach P X fn Q k A' S n) : Mach P X fn Q k A S n :=
 fun M ρ w a b cs Ds hb hrn hG hI hn hm hd hA => hr M ρ w a b cs Ds hb hrn hG hI hn hm hd (hA.same h)
theorem Run.same : ∀ {k : List It} {A A' : Env} {S : Store} {n : Nat}, SameA A A' -> Run P X fn Q k A' S n -> Run P X fn Q k A S n := by
 intro k
 cases k with
 | nil => intro A A' S n h hr; exact ⟨hr.1, hr.2.same h⟩
 | cons x k =>
   cases x with
   | done v => intro A A' S n h hr; exact hr
   | ops d ops i log =>
     intro A A' S n h hr
     refine ⟨hr.1, hr.2.same ?_ h⟩
     rintro A1 A2 S n log hA ⟨h1, h2⟩
     refine ⟨h1, ?_⟩
     rw [run_plain hr.1] at h2 ⊢
     exact h2.same hA
   | _ => intro A A' S n h hr; exact ⟨hr.1, hr.2.same h⟩
theorem same_bool {b : Unit -> Bool} {r : Bool} (h : b () = r) : Same (.bool b) (if r then .tt else .ff) := by
 intro M ρ vs
 cases r <;> simp [rel, h]
theorem same_get {t : Nat} {v : PV} (h : Same (A.get t) v) : SameA A ((t, v) :: A) := by
 intro s
 simp only [Env.get]
 cases hb : beqN t s with
 | true =>
   obtain rfl : t = s := by simpa using hb
   exact h
 | false => exact Same.refl _
theorem run_bool {k : List It} (t : Nat) {b : Unit -> Bool} (h : A.get t = .bool b) (ht : b () = true -> RunC P X fn Q ⟨k, (t, .tt) :: A, S, n⟩) (hf : b () = false -> RunC P X fn Q ⟨k, (t, .ff) :: A, S, n⟩) : RunC P X fn Q ⟨k, A, S, n⟩ := by
 cases hb : b () with
 | true => exact Run.same (same_get (t := t) (v := .tt) (by rw [h]; exact same_bool hb)) (ht hb)
 | false => exact Run.same (same_get (t := t) (v := .ff) (by rw [h]; exact same_bool hb)) (hf hb)
end
def PV.under (n : Nat) : PV -> Bool
 | .ptr id _ | .ptri id _ _ | .map id => bltN id n
 | .slice (some id) _ _ _ => bltN id n
 | .func _ a b => a.under n && b.under n
 | .iface _ x => x.under n
 | .agg l => l.under n
 | .tuple l => l.under n
 | .cons x r => x.under n && r.under n
 | _ => true
theorem blt_lt {a b : Nat} (h : bltN a b = true) : a < b := by
 simpa using h
def belowA (n : Nat) : Env -> Bool
 | [] => true
 | (_, v) :: r => v.under n && belowA n r
def belowS (n : Nat) : Store -> Bool
 | [] => true
 | (id, o) :: r => bltN id n && (match o with | .var v => v.under n | _ => true) && belowS n r
theorem belowA_get : ∀ {A : Env} {n : Nat}, belowA n A = true -> ∀ t, (A.get t).under n = true
 | [], n, _, t => rfl
 | (d, v) :: r, n, h, t => by
   simp only [belowA, Bool.and_eq_true] at h
   simp only [Env.get]
   cases beqN d t with
   | true => exact h.1
   | false => exact belowA_get h.2 t
theorem belowS_get : ∀ {S : Store} {n : Nat}, belowS n S = true -> ∀ id o, S.get id = some o -> id < n /\ ∀ v, o = .var v -> v.under n = true
 | [], n, _, id, o, h => by simp [Store.get] at h
 | (i, x) :: r, n, h, id, o, hg => by
   simp only [belowS, Bool.and_eq_true] at h
   rw [Store.get] at hg
   cases hb : beqN i id with
   | true =>
     simp only [hb, cond_true, Option.some.injEq] at hg
     subst hg
     obtain rfl : i = id := by simpa using hb
     refine ⟨blt_lt h.1.1, fun v hv => ?_⟩
     subst hv
     exact h.1.2
   | false =>
     simp only [hb, cond_false] at hg
     exact belowS_get h.2 id o hg
theorem run_loop {X : Ctx} {fn : Func} {Q : PV -> Store -> Prop} {c : Code} {k : List It} {ι : Type} (μ : ι -> Nat) (A : ι -> Env) (S : ι -> Store) (n : Nat) (I : ι -> Prop) (hk : plainK k = true)
  (h : ∀ i, I i -> (∀ j, I j -> μ j < μ i -> RunC P X fn Q ⟨.inLoop c :: k, A j, S j, n⟩) -> RunC P X fn Q ⟨.code c :: .inLoop c :: k, A i, S i, n⟩) (i : ι) (hi : I i) : RunC P X fn Q ⟨.inLoop c :: k, A i, S i, n⟩ := by
 generalize hm : μ i = m
 induction m using Nat.strongRecOn generalizing i with
 | _ m ih =>
   have h1 := h i hi fun j hj hlt => ih (μ j) (by omega) j hj rfl
   have hk' : plainK (.inLoop c :: k) = true := hk
   have hk'' : plainK (.code c :: .inLoop c :: k) = true := hk
   exact (run_plain hk').2 (mach_step (fun _ _ _ _ => stepR_inLoop) ((run_plain hk'').1 h1))
abbrev OpX := (Operand -> PV) -> Sto -> Nat -> Op -> Option Eff
def OpXOK (P : Program) (G : Gs) (O : OpX) : Prop := ∀ e g n op E, O e g n op = some E -> EffOK P G e g n op E
def xStep (X : Ctx) (O : OpX) : Cfg -> Option (Cfg × List (Unit -> Prop))
 | ⟨.ops d ops i log :: k, A, S, n⟩ => match ops[i]? with
   | some o => bif slotOK X.N o.dst then (match guardE ops A o.guard with
     | some true => match O (opnd X.G.val A) S.get n o.op with
       | some E => some (⟨.ops d ops (i + 1) (log ++ [(E.F, E.W.map (·.1))]) :: k, put A o.dst E.v, setAll S E.W, E.n⟩, E.C)
       | none => none
     | _ => none) else none
   | none => none
 | _ => none
def stepF (X : Ctx) (O : OpX) (c : Cfg) : Option (Cfg × List (Unit -> Prop)) :=
 match step1 X c with
 | some q => some q
 | none => xStep X O c
theorem xStep_ok {X : Ctx} {fn : Func} {O : OpX} (hO : OpXOK P X.G O) {Q : PV -> Store -> Prop} {c c' : Cfg} {C : List (Unit -> Prop)} (hwf : wfK c.k = true) (h : xStep X O c = some (c', C)) :
  wfK c'.k = true /\ ((∀ q ∈ C, q ()) -> RunC P X fn Q c' -> RunC P X fn Q c) := by
 unfold xStep at h
 split at h
 ·rename_i d ops i log k A S n
  have hk : plainK k = true := hwf
  cases ho : ops[i]? with
  | none => simp [ho] at h
  | some o =>
    simp only [ho] at h
    cases hs : slotOK X.N o.dst with
    | false => simp [hs] at h
    | true =>
      simp only [hs, cond_true] at h
      split at h
      · rename_i hg
        cases hE : O (opnd X.G.val A) S.get n o.op with
        | none => simp [hE] at h
        | some E =>
          simp only [hE, Option.some.injEq, Prod.mk.injEq] at h
          obtain ⟨rfl, rfl⟩ := h
          exact ⟨hk, fun hC hr => ⟨hk, .exec E ho hs (guardE_P hg) (hO _ _ _ _ _ hE) hC hr.2⟩⟩
      · cases h
 ·cases h
def stepsF (X : Ctx) (O : OpX) : Nat -> Cfg -> Cfg × List (Unit -> Prop)
 | 0, c => (c, [])
 | m + 1, c => match stepF X O c with
   | some (c', C) => match stepsF X O m c' with
     | (c'', C') => (c'', C ++ C')
   | none => (c, [])
theorem stepsF_ok {X : Ctx} {fn : Func} (hX : OK P X fn) {O : OpX} (hO : OpXOK P X.G O) {Q : PV -> Store -> Prop} : ∀ (m : Nat) (c : Cfg), wfK c.k = true ->
  wfK (stepsF X O m c).1.k = true /\ (conds (stepsF X O m c).2 -> RunC P X fn Q (stepsF X O m c).1 -> RunC P X fn Q c)
 | 0, c, hwf => ⟨hwf, fun _ h => h⟩
 | m + 1, c, hwf => by
   rw [stepsF]
   cases h : stepF X O c with
   | none => exact ⟨hwf, fun _ h => h⟩
   | some q =>
     obtain ⟨c', C⟩ := q
     have hone : wfK c'.k = true /\ ((∀ q ∈ C, q ()) -> RunC P X fn Q c' -> RunC P X fn Q c) := by
       unfold stepF at h
       cases h1 : step1 X c with
       | some q' => rw [h1] at h; simp only [Option.some.injEq] at h; subst h; exact step1_ok hX hwf h1
       | none => rw [h1] at h; exact xStep_ok hO hwf h
     obtain ⟨h1, h2⟩ := hone
     obtain ⟨h3, h4⟩ := stepsF_ok hX hO (Q := Q) m c' h1
     exact ⟨h3, fun hC hr => h2 (conds_mem (conds_append hC).1) (h4 (conds_append hC).2 hr)⟩
end Go.Abs
namespace Go.Abs
variable {P : Program}
def zeroB : PV -> List Value -> Bool
 | .ff, [.bool false] => true
 | .int k n, [.int k' m] => decide (k = k') && decide (n () = m)
 | .str s, [.string t] => decide (s () = t)
 | .nilp, [.pointer none] => true
 | .nils, [.slice none 0 0] => true
 | .nilm, [.map none] => true
 | .nilf, [.nilFunc] => true
 | .nili, [.nilIface] => true
 | .agg l, vs => zeroB l vs
 | .arrI k n l, vs => beqN (l ()).length n && ints k (l ()) vs
 | .arrB n l, vs => beqN (l ()).length n && bools (l ()) vs
 | .arrS n l, vs => beqN (l ()).length n && strs (l ()) vs
 | .nil, [] => true
 | .cons x r, vs => zeroB x (vs.take x.size) && zeroB r (vs.drop x.size)
 | _, _ => false
 where
 ints (k : IntKind) : List Int -> List Value -> Bool
  | [], [] => true
  | i :: l, .int k' j :: r => decide (k = k') && decide (i = j) && ints k l r
  | _, _ => false
 bools : List Bool -> List Value -> Bool
  | [], [] => true
  | i :: l, .bool j :: r => (i == j) && bools l r
  | _, _ => false
 strs : List ByteArray -> List Value -> Bool
  | [], [] => true
  | i :: l, .string j :: r => decide (i = j) && strs l r
  | _, _ => false
theorem ints_ok {k : IntKind} : ∀ {l : List Int} {vs : List Value}, zeroB.ints k l vs = true -> vs = l.map (.int k)
 | [], [], _ => rfl
 | i :: l, v :: vs, h => by
   cases v <;> simp_all [zeroB.ints]
   obtain ⟨⟨rfl, rfl⟩, h⟩ := h
   exact ints_ok h
 | [], _ :: _, h => by simp [zeroB.ints] at h
 | _ :: _, [], h => by simp [zeroB.ints] at h
theorem bools_ok : ∀ {l : List Bool} {vs : List Value}, zeroB.bools l vs = true -> vs = l.map .bool
 | [], [], _ => rfl
 | i :: l, v :: vs, h => by
   cases v <;> simp_all [zeroB.bools]
   exact bools_ok h.2
 | [], _ :: _, h => by simp [zeroB.bools] at h
 | _ :: _, [], h => by simp [zeroB.bools] at h
theorem strs_ok : ∀ {l : List ByteArray} {vs : List Value}, zeroB.strs l vs = true -> vs = l.map .string
 | [], [], _ => rfl
 | i :: l, v :: vs, h => by
   cases v <;> simp_all [zeroB.strs]
   exact strs_ok h.2
 | [], _ :: _, h => by simp [zeroB.strs] at h
 | _ :: _, [], h => by simp [zeroB.strs] at h
theorem zeroB_ok {M : Mem} {ρ : Names} : ∀ {pv : PV} {vs : List Value}, zeroB pv vs = true -> rel M pv ρ .cells vs := by
 intro pv
 induction pv with
 | ff => intro vs h; match vs, h with | [.bool false], _ => exact ⟨by simp, rfl⟩
 | int k n =>
   intro vs h
   match vs, h with
   | [.int k' m], h =>
     simp only [zeroB, Bool.and_eq_true, decide_eq_true_eq] at h
     obtain ⟨rfl, rfl⟩ := h
     exact ⟨by simp, rfl⟩
 | str s =>
   intro vs h
   match vs, h with
   | [.string t], h =>
     simp only [zeroB, decide_eq_true_eq] at h
     subst h
     exact ⟨by simp, rfl⟩
 | nilp => intro vs h; match vs, h with | [.pointer none], _ => exact ⟨by simp, rfl⟩
 | nils => intro vs h; match vs, h with | [.slice none 0 0], _ => exact ⟨by simp, rfl⟩
 | nilm => intro vs h; match vs, h with | [.map none], _ => exact ⟨by simp, rfl⟩
 | nilf => intro vs h; match vs, h with | [.nilFunc], _ => exact ⟨by simp, rfl⟩
 | nili => intro vs h; match vs, h with | [.nilIface], _ => exact ⟨by simp, rfl⟩
 | agg l ih => intro vs h; rw [zeroB] at h; exact .inl ⟨rfl, ih h⟩
 | arrI k n l =>
   intro vs h
   simp only [zeroB, Bool.and_eq_true] at h
   exact ⟨by simpa using h.1, .inl ⟨rfl, ints_ok h.2⟩⟩
 | arrB n l =>
   intro vs h
   simp only [zeroB, Bool.and_eq_true] at h
   exact ⟨by simpa using h.1, .inl ⟨rfl, bools_ok h.2⟩⟩
 | arrS n l =>
   intro vs h
   simp only [zeroB, Bool.and_eq_true] at h
   exact ⟨by simpa using h.1, .inl ⟨rfl, strs_ok h.2⟩⟩
 | nil => intro vs h; match vs, h with | [], _ => exact ⟨by simp, rfl⟩
 | cons x r ih1 ih2 =>
   intro vs h
   simp only [zeroB, Bool.and_eq_true] at h
   exact .inl ⟨rfl, _, _, (List.take_append_drop x.size vs).symm, ih1 h.1, ih2 h.2⟩
 | _ => intro vs h; simp [zeroB] at h
def zeroV (pv : PV) : Option Value -> Bool
 | some (.agg cs) => pv.wide && zeroB pv cs.toList
 | some v => pv.leaf && zeroB pv [v]
 | none => false
theorem zeroV_ok {M : Mem} {ρ : Names} {pv : PV} {z : Option Value} (h : zeroV pv z = true) : ∃ v, z = some v /\ rel M pv ρ .val [v] := by
 cases z with
 | none => simp [zeroV] at h
 | some v =>
   refine ⟨v, rfl, ?_⟩
   by_cases hv : ∃ cs, v = .agg cs
   · obtain ⟨cs, rfl⟩ := hv
     simp only [zeroV, Bool.and_eq_true] at h
     simpa using wide_rel h.1 (zeroB_ok (M := M) (ρ := ρ) h.2)
   · have h' : (pv.leaf && zeroB pv [v]) = true := by
       cases v <;> first | exact h | exact absurd ⟨_, rfl⟩ hv
     simp only [Bool.and_eq_true] at h'
     obtain ⟨u, e, _, hr⟩ := rel_leaf h'.1 (zeroB_ok (M := M) (ρ := ρ) h'.2)
     simp only [List.cons.injEq, and_true] at e
     subst e
     exact hr .val (by simp)
def descB (n : Nat) : TD -> TypeDesc -> Bool
 | .other, _ => true
 | .bool, .bool => true
 | .int k, .int k' => decide (k = k')
 | .str, .string => true
 | .ptr e, .pointer e' => beqN e e'
 | .slice e, .slice e' => beqN e e'
 | .arr m e, .array m' e' => beqN m m' && beqN e e'
 | .struct fs, .struct a => fields fs a.toList
 | .map k e, .map k' e' => beqN k k' && beqN e e'
 | .func, .func _ _ _ => true
 | .iface, .interface _ => true
 | _, _ => false
 where
 fields : List (Nat × Nat) -> List Field -> Bool
  | [], [] => true
  | (o, t) :: r, f :: l => beqN o f.offset && beqN t f.type && bltN f.type n && decide (f.name ≠ "_") && fields r l
  | _, _ => false
theorem info_of {t : TypeId} {inf : TypeInfo} (h : P.types[t]? = some inf) : P.info? t = some inf := by
 unfold Tables.info?
 rw [if_pos (lt_of_get h)]; exact h
theorem info_lt {t : TypeId} (h : t < P.types.size) : ∃ inf, P.info? t = some inf := ⟨P.types[t], info_of (by simp [h])⟩
theorem fields_ok {n : Nat} (hn : n = P.types.size) : ∀ {fs : List (Nat × Nat)} {l : List Field}, descB.fields n fs l = true ->
  l.map (fun f => (f.offset, f.type)) = fs /\ ∀ f ∈ l, f.name ≠ "_" /\ ∃ inf, P.info? f.type = some inf
 | [], [], _ => ⟨rfl, fun f hf => by cases hf⟩
 | (o, t) :: r, f :: l, h => by
   simp only [descB.fields, Bool.and_eq_true, decide_eq_true_eq] at h
   obtain ⟨⟨⟨⟨h1, h2⟩, h3⟩, h4⟩, h5⟩ := h
   obtain ⟨k1, k2⟩ := fields_ok hn h5
   refine ⟨?_, fun g hg => ?_⟩
   · rw [List.map_cons, k1]
     have : o = f.offset := by simpa using h1
     have : t = f.type := by simpa using h2
     subst_vars; rfl
   · rcases List.mem_cons.1 hg with rfl | hg
     · exact ⟨h4, info_lt (by rw [<- hn]; exact h3)⟩
     · exact k2 g hg
 | [], _ :: _, h => by simp [descB.fields] at h
 | _ :: _, [], h => by simp [descB.fields] at h
theorem descB_ok {n : Nat} (hn : n = P.types.size) {t : TypeId} {d : TypeDesc} (hu : P.underlying t = some d) {td : TD} (h : descB n td d = true) : td.fits P t := by
 cases td with
 | other => trivial
 | bool => cases d <;> simp [descB] at h; exact hu
 | int k => cases d <;> simp [descB] at h; subst h; exact hu
 | str => cases d <;> simp [descB] at h; exact hu
 | ptr e => cases d <;> simp [descB] at h; subst h; exact hu
 | slice e => cases d <;> simp [descB] at h; subst h; exact hu
 | arr m e => cases d <;> simp [descB] at h; obtain ⟨rfl, rfl⟩ := h; exact hu
 | struct fs =>
   cases d <;> simp [descB] at h
   rename_i a
   obtain ⟨h1, h2⟩ := fields_ok hn h
   exact ⟨a, hu, h1, fun f hf => h2 f hf⟩
 | map k e => cases d <;> simp [descB] at h; obtain ⟨rfl, rfl⟩ := h; exact hu
 | func => cases d <;> simp [descB] at h; exact ⟨_, _, _, hu⟩
 | iface => cases d <;> simp [descB] at h; exact ⟨_, hu⟩
def tokB (n : Nat) (inf : TypeInfo) (d : TypeDesc) (i : TI) : Bool :=
 beqN inf.size i.size && beqN inf.bytes i.bytes && zeroV i.zero inf.zero && descB n i.d d && (d.isRow == i.zero.wide) && (i.zero.wide || i.zero.leaf) && (i.zero.wide == i.d.wide) && beqN i.size i.zero.size
theorem tok {n : Nat} (hn : n = P.types.size) {t : TypeId} {inf : TypeInfo} {d : TypeDesc} {i : TI} (h1 : P.types[t]? = some inf) (h2 : P.underlying t = some d) (h : tokB n inf d i = true) (hw : i.d.wide = true -> P.stoodInHeld t = false /\ P.eqGuardType P.depth t = false) : TOK P t i := by
 simp only [tokB, Bool.and_eq_true, beq_iff_eq, Bool.or_eq_true] at h
 obtain ⟨⟨⟨⟨⟨⟨⟨k1, k2⟩, k3⟩, k4⟩, k5⟩, k6⟩, k7⟩, k8⟩ := h
 obtain ⟨z, hz1, hz2⟩ := zeroV_ok (M := noMem) (ρ := noNames) k3
 exact ⟨⟨inf, z, info_of h1, by simpa using k1, by simpa using k2, hz1, hz2⟩, descB_ok hn h2 k4, ⟨d, h2, k5⟩, k6, k7, by simpa using k8, hw⟩
theorem TT_leaf {k : Nat} {i : TI} (h : TOK P k i) : TT P (fun t => bif beqN t k then some i else none) := by
 intro t j hj
 cases hb : beqN t k with
 | false => simp [hb] at hj
 | true =>
   simp only [hb, cond_true, Option.some.injEq] at hj
   subst hj
   obtain rfl : t = k := by simpa using hb
   exact h
theorem TT_bif {c : Nat -> Bool} {T1 T2 : Nat -> Option TI} (h1 : TT P T1) (h2 : TT P T2) : TT P (fun t => bif c t then T1 t else T2 t) := by
 intro t j hj
 cases hb : c t with
 | false => simp only [hb, cond_false] at hj; exact h2 t j hj
 | true => simp only [hb, cond_true] at hj; exact h1 t j hj
end Go.Abs
namespace Go.Abs
variable {P : Program}
def impP : PV -> PV -> Prop
 | .tt, .bool b => b () = true
 | .ff, .bool b => b () = false
 | .bool a, .bool b => a () = b ()
 | .bool a, .tt => a () = true
 | .bool a, .ff => a () = false
 | .int k n, .int k' m => k = k' /\ n () = m ()
 | .str s, .str t => s () = t ()
 | .arrI k n l, .arrI k' n' l' => k = k' /\ n = n' /\ l () = l' ()
 | .arrB n l, .arrB n' l' => n = n' /\ l () = l' ()
 | .arrS n l, .arrS n' l' => n = n' /\ l () = l' ()
 | .nils, .slice none _ len _ => len () = 0
 | .slice tok esz len f, .slice tok' esz' len' f' => (tok' = none \/ tok' = tok) /\ esz = esz' /\ len () = len' () /\ ∀ j : Int, 0 <= j -> j < len () -> impP (f fun _ => j) (f' fun _ => j)
 | .agg l, .agg l' => impP l l'
 | .tuple l, .tuple l' => impP l l'
 | .cons x r, .cons x' r' => impP x x' /\ impP r r'
 | p, q => p = q
theorem impP_ok {M : Mem} : ∀ (p q : PV) {ρ : Names} {m : Mode} {vs : List Value}, impP p q -> rel M p ρ m vs -> rel M q ρ m vs := by
 intro p
 induction p with
 | tt => intro q ρ m vs h hr; cases q <;> simp_all [impP, rel]
 | ff => intro q ρ m vs h hr; cases q <;> simp_all [impP, rel]
 | bool a => intro q ρ m vs h hr; cases q <;> simp_all [impP, rel]
 | int k n =>
   intro q ρ m vs h hr
   cases q <;> try (simp [impP] at h; done)
   simp only [impP] at h
   obtain ⟨rfl, h⟩ := h
   simp only [rel] at hr ⊢
   rwa [<- h]
 | str s =>
   intro q ρ m vs h hr
   cases q <;> try (simp [impP] at h; done)
   simp only [impP] at h
   simp only [rel] at hr ⊢
   rwa [<- h]
 | arrI k n l =>
   intro q ρ m vs h hr
   cases q <;> try (simp [impP] at h; done)
   simp only [impP] at h
   obtain ⟨rfl, rfl, h⟩ := h
   simp only [rel] at hr ⊢
   rwa [<- h]
 | arrB n l =>
   intro q ρ m vs h hr
   cases q <;> try (simp [impP] at h; done)
   simp only [impP] at h
   obtain ⟨rfl, h⟩ := h
   simp only [rel] at hr ⊢
   rwa [<- h]
 | arrS n l =>
   intro q ρ m vs h hr
   cases q <;> try (simp [impP] at h; done)
   simp only [impP] at h
   obtain ⟨rfl, h⟩ := h
   simp only [rel] at hr ⊢
   rwa [<- h]
 | nils =>
   intro q ρ m vs h hr
   cases q with
   | slice tok esz len f =>
     cases tok with
     | none =>
       simp only [impP] at h
       exact ⟨none, 0, 0, hr, by simp [h], Nat.le_refl _, Nat.zero_le _, fun id hid => (by cases hid), fun hn => (by omega)⟩
     | some id => simp [impP] at h
   | _ => simp only [impP] at h; first | (cases h; done) | (subst h; exact hr) | exact hr
 | slice tok esz len f ih =>
   intro q ρ m vs h hr
   cases q with
   | slice tok' esz' len' f' =>
     simp only [impP] at h
     obtain ⟨h0, rfl, h1, h2⟩ := h
     obtain ⟨a, n, cap, k1, k2, k3, k4, k5, k6⟩ := hr
     refine ⟨a, n, cap, k1, k2.trans h1, k3, k4, fun id hid => ?_, fun hn => ?_⟩
     · rcases h0 with h0 | h0
       · rw [h0] at hid; cases hid
       · exact k5 id (by rw [<- h0]; exact hid)
     obtain ⟨b, base, e, hrow⟩ := k6 hn
     refine ⟨b, base, e, fun j hj => ?_⟩
     obtain ⟨cs, c1, c2, c3⟩ := hrow j hj
     exact ⟨cs, c1, ih _ _ (h2 j (by omega) (by omega)) c2, c3⟩
   | _ => simp only [impP] at h; cases h
 | agg l ih =>
   intro q ρ m vs h hr
   cases q with
   | agg l' =>
     simp only [impP] at h
     rcases hr with ⟨h1, h2⟩ | ⟨h1, cs, h2, h3⟩
     · exact .inl ⟨h1, ih _ h h2⟩
     · exact .inr ⟨h1, cs, h2, ih _ h h3⟩
   | _ => simp only [impP] at h; cases h
 | tuple l ih =>
   intro q ρ m vs h hr
   cases q with
   | tuple l' =>
     simp only [impP] at h
     obtain ⟨h1, ws, h2, h3⟩ := hr
     exact ⟨h1, ws, h2, ih _ h h3⟩
   | _ => simp only [impP] at h; cases h
 | cons x r ih1 ih2 =>
   intro q ρ m vs h hr
   cases q with
   | cons x' r' =>
     simp only [impP] at h
     rcases hr with ⟨h1, c, d, h2, h3, h4⟩ | ⟨h1, v, ws, h2, h3, h4⟩
     · exact .inl ⟨h1, c, d, h2, ih1 _ h.1 h3, ih2 _ h.2 h4⟩
     · exact .inr ⟨h1, v, ws, h2, ih1 _ h.1 h3, ih2 _ h.2 h4⟩
   | _ => simp only [impP] at h; cases h
 | _ => intro q ρ m vs h hr; simp only [impP] at h; subst h; exact hr
def Ret (r : PV) : PV -> Store -> Prop := fun pv _ => pv.pure = true /\ impP pv.strip r
structure FnOK (P : Program) (X : Ctx) (f : Nat) (fn : Func) (c : Code) : Prop where
 func : P.funcs[f]? = some fn
 name : (fn.name == "runtime.NumGoroutine") = false
 body : fn.body = some c
 ntmps : fn.ntmps = X.N
 n0 : X.n0 = 0 /\ X.rd = false
 ok : OK P X fn
end Go.Abs
namespace Go.Abs
variable {P : Program}
inductive Tree where
 | leaf (v : PV) (S : Store)
 | br (b : Unit -> Bool) (t f : Tree)
 | need (C : List (Unit -> Prop)) (t : Tree)
 | stuck (c : Cfg)
def stuckOn : Cfg -> Option Nat
 | ⟨.code (.cond (.tmp t) _ _) :: _, _, _, _⟩ => some t
 | ⟨.ops _ ops i _ :: _, _, _, _⟩ => match ops[i]? with
   | some o => match o.guard with
     | some (j, _) => match ops[j]? with
       | some oj => oj.dst
       | none => none
     | none => none
   | none => none
 | _ => none
def need1 : List (Unit -> Prop) -> Tree -> Tree
 | [], t => t
 | C, t => .need C t
inductive Nx where
 | leaf (v : PV) (S : Store)
 | br (b : Unit -> Bool) (c c' : Cfg)
 | on (c : Cfg)
 | stuck (c : Cfg)
def askE (A : Env) (t : Nat) (c : Cfg) : Nx :=
 match A.get t with
 | .bool b => .br b ⟨c.k, (t, .tt) :: A, c.S, c.n⟩ ⟨c.k, (t, .ff) :: A, c.S, c.n⟩
 | _ => .stuck c
def next (u : Bool) : Cfg -> Nx
 | ⟨.done v :: _, _, S, _⟩ => .leaf v S
 | ⟨.inLoop c :: k, A, S, n⟩ => bif u then .on ⟨.code c :: .inLoop c :: k, A, S, n⟩ else .stuck ⟨.inLoop c :: k, A, S, n⟩
 | c => match stuckOn c with
   | some t => askE c.A t c
   | none => .stuck c
def explore (X : Ctx) (O : OpX) (u : Bool) : Nat -> Cfg -> Tree
 | 0, c => .stuck c
 | m + 1, c => match stepsF X O 4000 c with
   | (c', C) => match next u c' with
     | .leaf v S => need1 C (.leaf v S)
     | .br b c1 c2 => need1 C (.br b (explore X O u m c1) (explore X O u m c2))
     | .on c1 => need1 C (explore X O u m c1)
     | .stuck c1 => need1 C (.stuck c1)
def TreeOK (P : Program) (X : Ctx) (fn : Func) (Q : PV -> Store -> Prop) : Tree -> Prop
 | .leaf v S => Q v S
 | .br b t f => (b () = true -> TreeOK P X fn Q t) /\ (b () = false -> TreeOK P X fn Q f)
 | .need C t => conds C /\ TreeOK P X fn Q t
 | .stuck c => RunC P X fn Q c
theorem need1_ok {X : Ctx} {fn : Func} {Q : PV -> Store -> Prop} {C : List (Unit -> Prop)} {t : Tree} (h : TreeOK P X fn Q (need1 C t)) : conds C /\ TreeOK P X fn Q t := by
 cases C with
 | nil => exact ⟨trivial, h⟩
 | cons c C => exact h
theorem next_ok {X : Ctx} {fn : Func} {Q : PV -> Store -> Prop} {u : Bool} {c : Cfg} (hwf : wfK c.k = true) : match next u c with
  | .leaf v S => Q v S -> RunC P X fn Q c
  | .br b c1 c2 => wfK c1.k = true /\ wfK c2.k = true /\ ((b () = true -> RunC P X fn Q c1) -> (b () = false -> RunC P X fn Q c2) -> RunC P X fn Q c)
  | .on c1 => wfK c1.k = true /\ (RunC P X fn Q c1 -> RunC P X fn Q c)
  | .stuck c1 => c1 = c := by
 have hask : ∀ t, match askE c.A t c with
  | .leaf v S => Q v S -> RunC P X fn Q c
  | .br b c1 c2 => wfK c1.k = true /\ wfK c2.k = true /\ ((b () = true -> RunC P X fn Q c1) -> (b () = false -> RunC P X fn Q c2) -> RunC P X fn Q c)
  | .on c1 => wfK c1.k = true /\ (RunC P X fn Q c1 -> RunC P X fn Q c)
  | .stuck c1 => c1 = c := by
  intro t
  unfold askE
  cases hA : c.A.get t <;> try exact rfl
  exact ⟨hwf, hwf, fun h1 h2 => run_bool t hA h1 h2⟩
 have hrest : match (match stuckOn c with
   | some t => askE c.A t c
   | none => .stuck c) with
  | .leaf v S => Q v S -> RunC P X fn Q c
  | .br b c1 c2 => wfK c1.k = true /\ wfK c2.k = true /\ ((b () = true -> RunC P X fn Q c1) -> (b () = false -> RunC P X fn Q c2) -> RunC P X fn Q c)
  | .on c1 => wfK c1.k = true /\ (RunC P X fn Q c1 -> RunC P X fn Q c)
  | .stuck c1 => c1 = c := by
  cases stuckOn c with
  | none => rfl
  | some t => exact hask t
 obtain ⟨k, A, S, n⟩ := c
 cases k with
 | nil => exact hrest
 | cons x k =>
   cases x with
   | done v => exact fun h => h
   | inLoop c0 =>
     cases u with
     | false => exact rfl
     | true =>
       have hk : plainK (.inLoop c0 :: k) = true := hwf
       exact ⟨wf_plain (k := .code c0 :: .inLoop c0 :: k) hk, fun h3 => (run_plain hk).2 (mach_step (fun _ _ _ _ => stepR_inLoop) ((run_plain (k := .code c0 :: .inLoop c0 :: k) hk).1 h3))⟩
   | _ => exact hrest
theorem explore_ok {X : Ctx} {fn : Func} (hX : OK P X fn) {O : OpX} (hO : OpXOK P X.G O) {Q : PV -> Store -> Prop} {u : Bool} : ∀ (m : Nat) (c : Cfg), wfK c.k = true -> TreeOK P X fn Q (explore X O u m c) -> RunC P X fn Q c
 | 0, c, _, h => h
 | m + 1, c, hwf, h => by
   have hs := stepsF_ok hX hO (Q := Q) 4000 c hwf
   rw [explore] at h
   generalize stepsF X O 4000 c = q at h hs
   obtain ⟨c', C⟩ := q
   simp only at hs h
   have hn := next_ok (P := P) (X := X) (fn := fn) (Q := Q) (u := u) hs.1
   cases hx : next u c' with
   | leaf v S =>
     rw [hx] at h hn
     exact hs.2 (need1_ok h).1 (hn (need1_ok h).2)
   | br b c1 c2 =>
     rw [hx] at h hn
     obtain ⟨h1, h2⟩ := need1_ok h
     exact hs.2 h1 (hn.2.2 (fun ht => explore_ok hX hO m _ hn.1 (h2.1 ht)) (fun hf => explore_ok hX hO m _ hn.2.1 (h2.2 hf)))
   | on c1 =>
     rw [hx] at h hn
     obtain ⟨h1, h2⟩ := need1_ok h
     exact hs.2 h1 (hn.2 (explore_ok hX hO m _ hn.1 h2))
   | stuck c1 =>
     rw [hx] at h hn
     obtain ⟨h1, h2⟩ := need1_ok h
     have h3 : TreeOK P X fn Q (.stuck c') := by rw [<- hn]; exact h2
     exact hs.2 h1 h3
def Ctx.at (X : Ctx) (n : Nat) : Ctx := { X with n0 := n }
theorem OK.at {X : Ctx} {fn : Func} (h : OK P X fn) (n : Nat) : OK P (X.at n) fn := ⟨h.T, h.mixed, h.res⟩
theorem FnOK.sfun {X : Ctx} {f : Nat} {fn : Func} {c : Code} (h : FnOK P X f fn c) {args : PV} {S : Store} {n : Nat} {Q : PV -> Store -> Prop} (hle : bleN args.count X.N = true)
  (hr : RunC P (X.at n) fn Q ⟨[.code c], Env.enter 0 args, S, n⟩) : SFun P X.G f args S n Q :=
 ⟨⟨fn, h.func, h.name, by rw [h.body]; rfl⟩, fun M ρ w vs hG hI hn hv => calls_of_run (X := X.at n) h.n0.2 h.func h.body h.ntmps (show args.count <= X.N by simpa using hle) (Nat.le_refl n) hr hG hI hn hv⟩
theorem FnOK.tree {X : Ctx} {f : Nat} {fn : Func} {c : Code} (h : FnOK P X f fn c) {O : OpX} (hO : OpXOK P X.G O) {args r : PV} (u : Bool) (m : Nat) (hle : bleN args.count X.N = true)
  (hr : TreeOK P X fn (Ret r) (explore X O u m ⟨[.code c], Env.enter 0 args, [], 0⟩)) : PFun P X.G f args r := by
 refine ⟨⟨fn, h.func, h.name, by rw [h.body]; rfl⟩, fun M w vs hG hI hv => (calls_of_run h.n0.2 h.func h.body h.ntmps (by simpa using hle) (by rw [h.n0.1]; exact Nat.le_refl _) (explore_ok h.ok hO m _ rfl hr) hG hI (fun _ _ => rfl) hv).mono ?_⟩
 rintro e w' ⟨M', ρ', v, pv, S', rfl, h1, h2, h3, h4⟩
 exact ⟨M', ρ', v, Store.get S', rfl, by rw [h.n0.1] at h1; exact h1, impP_ok _ _ h4 (strip_rel _ h3 h2)⟩
end Go.Abs
namespace Go.Abs
variable {P : Program}
def PV.ren (σ : Nat -> Nat) : PV -> PV
 | .ptr id off => .ptr (σ id) off
 | .ptri id off i => .ptri (σ id) off i
 | .map id => .map (σ id)
 | .slice (some id) esz len f => .slice (some (σ id)) esz len f
 | .func fn a b => .func fn (a.ren σ) (b.ren σ)
 | .iface t x => .iface t (x.ren σ)
 | .agg l => .agg (l.ren σ)
 | .tuple l => .tuple (l.ren σ)
 | .cons x r => .cons (x.ren σ) (r.ren σ)
 | p => p
def pullN (σ : Nat -> Nat) (ρ : Names) (n : Nat) : Names := ⟨fun id => if id < n then ρ (σ id) else none, ρ.K⟩
theorem pullN_lt {σ : Nat -> Nat} {ρ : Names} {n id : Nat} (h : id < n) : pullN σ ρ n id = ρ (σ id) := by simp [pullN, h]
theorem rel_pull {M : Mem} {σ : Nat -> Nat} {n : Nat} : ∀ (pv : PV) {ρ : Names} {m : Mode} {vs : List Value}, pv.under n = true -> rel M (pv.ren σ) ρ m vs -> rel M pv (pullN σ ρ n) m vs := by
 intro pv
 induction pv with
 | ptr id off =>
   intro ρ m vs hb ⟨b, h1, h2⟩
   exact ⟨b, by rw [pullN_lt (blt_lt hb)]; exact h1, h2⟩
 | ptri id off idx =>
   intro ρ m vs hb ⟨b, h1, h2⟩
   exact ⟨b, by rw [pullN_lt (blt_lt hb)]; exact h1, h2⟩
 | map id =>
   intro ρ m vs hb ⟨b, h1, h2⟩
   exact ⟨b, by rw [pullN_lt (blt_lt hb)]; exact h1, h2⟩
 | slice tok esz len f ih =>
   intro ρ m vs hb h
   cases tok with
   | none =>
     obtain ⟨a, n', cap, h1, h2, h3, h4, h5, h6⟩ := h
     exact ⟨a, n', cap, h1, h2, h3, h4, fun id hid => (by cases hid), h6⟩
   | some id =>
     obtain ⟨a, n', cap, h1, h2, h3, h4, h5, h6⟩ := h
     refine ⟨a, n', cap, h1, h2, h3, h4, fun id' hid => ?_, h6⟩
     simp only [Option.some.injEq] at hid
     subst hid
     rw [pullN_lt (blt_lt hb)]; exact h5 _ rfl
 | func fn first captured ih1 ih2 =>
   intro ρ m vs hb ⟨fs, cs, h1, h2, h3⟩
   simp only [PV.under, Bool.and_eq_true] at hb
   exact ⟨fs, cs, h1, ih1 hb.1 h2, ih2 hb.2 h3⟩
 | iface t x ih => intro ρ m vs hb ⟨v, h1, h2⟩; exact ⟨v, h1, ih hb h2⟩
 | agg l ih =>
   intro ρ m vs hb hx
   rcases hx with ⟨h1, h2⟩ | ⟨h1, cs, h2, h3⟩
   · exact .inl ⟨h1, ih hb h2⟩
   · exact .inr ⟨h1, cs, h2, ih hb h3⟩
 | tuple l ih => intro ρ m vs hb ⟨h1, ws, h2, h3⟩; exact ⟨h1, ws, h2, ih hb h3⟩
 | cons x r ih1 ih2 =>
   intro ρ m vs hb hx
   simp only [PV.under, Bool.and_eq_true] at hb
   rcases hx with ⟨h1, c, d, h2, h3, h4⟩ | ⟨h1, v, ws, h2, h3, h4⟩
   · exact .inl ⟨h1, c, d, h2, ih1 hb.1 h3, ih2 hb.2 h4⟩
   · exact .inr ⟨h1, v, ws, h2, ih1 hb.1 h3, ih2 hb.2 h4⟩
 | _ => intro ρ m vs hb h; exact h
def impA (σ : Nat -> Nat) (A' : Env) : Env -> Prop
 | [] => True
 | (t, v) :: r => impP (A'.get t) (v.ren σ) /\ impA σ A' r
def impO (σ : Nat -> Nat) : Option SObj -> SObj -> Prop
 | some (.var v'), .var v => impP v' (v.ren σ)
 | some (.own e' t'), .own e t => e' = e /\ t' = t
 | some (.map k' e' m'), .map k e m => SObj.map k' e' (fun _ => m' ()) = .map k e (fun _ => m ())
 | some (.raw o'), .raw o => o' = o
 | some (.ghost Y' s' i'), .ghost Y s i => Y' = Y /\ s' () = s () /\ i' () = i ()
 | _, _ => False
def impS (σ : Nat -> Nat) (S' : Store) : Store -> Prop
 | [] => True
 | (id, o) :: r => impO σ (S'.get (σ id)) o /\ impS σ S' r
def impG (σ : Nat -> Nat) (g : Sto) : Store -> Prop
 | [] => True
 | (id, o) :: r => impO σ (g (σ id)) o /\ impG σ g r
theorem impS_G {σ : Nat -> Nat} {S' : Store} : ∀ {S : Store}, impS σ S' S -> impG σ S'.get S
 | [], _ => trivial
 | (_, _) :: _, h => ⟨h.1, impS_G h.2⟩
def injS (σ : Nat -> Nat) : Store -> Bool
 | [] => true
 | (id, _) :: r => r.all (fun x => beqN x.1 id || !beqN (σ x.1) (σ id)) && injS σ r
def idS (σ : Nat -> Nat) : Nat -> Bool
 | 0 => true
 | n + 1 => beqN (σ n) n && idS σ n
theorem impA_get {σ : Nat -> Nat} {A' : Env} : ∀ {A : Env}, impA σ A' A -> ∀ t, A.get t = .undef \/ impP (A'.get t) ((A.get t).ren σ)
 | [], _, t => .inl rfl
 | (d, v) :: r, h, t => by
   simp only [Env.get]
   cases hb : beqN d t with
   | true =>
     obtain rfl : d = t := by simpa using hb
     exact .inr h.1
   | false => exact impA_get h.2 t
theorem get_mem : ∀ {S : Store} {id : Nat} {o : SObj}, S.get id = some o -> ∃ o', (id, o') ∈ S
 | [], id, o, h => by simp [Store.get] at h
 | (i, x) :: r, id, o, h => by
   rw [Store.get] at h
   cases hb : beqN i id with
   | true =>
     obtain rfl : i = id := by simpa using hb
     exact ⟨x, by simp⟩
   | false =>
     simp only [hb, cond_false] at h
     obtain ⟨o', h'⟩ := get_mem h
     exact ⟨o', List.mem_cons_of_mem _ h'⟩
theorem injS_ne {σ : Nat -> Nat} : ∀ {S : Store}, injS σ S = true -> ∀ {a b : Nat × SObj}, a ∈ S -> b ∈ S -> a.1 ≠ b.1 -> σ a.1 ≠ σ b.1
 | [], _, a, b, ha, _, _ => by cases ha
 | (i, x) :: r, h, a, b, ha, hb, hne => by
   simp only [injS, Bool.and_eq_true, List.all_eq_true, Bool.or_eq_true, Bool.not_eq_true'] at h
   rcases List.mem_cons.1 ha with rfl | ha <;> rcases List.mem_cons.1 hb with rfl | hb
   · exact absurd rfl hne
   · rcases h.1 b hb with h1 | h1
     · exact absurd (by simpa using h1 : b.1 = i).symm hne
     · intro e; rw [e] at h1; simp at h1
   · rcases h.1 a ha with h1 | h1
     · exact absurd (by simpa using h1 : a.1 = i) hne
     · intro e; rw [e] at h1; simp at h1
   · exact injS_ne h.2 ha hb hne
theorem idS_eq {σ : Nat -> Nat} : ∀ {n : Nat}, idS σ n = true -> ∀ id, id < n -> σ id = id
 | 0, _, id, h => by omega
 | n + 1, h, id, hid => by
   simp only [idS, Bool.and_eq_true] at h
   by_cases e : id = n
   · subst e; simpa using h.1
   · exact idS_eq h.2 id (by omega)
theorem SObj.ok_map {M : Mem} {ρ ρ' : Names} {w : World} {v : Value} {k e k' e' : Sh} {l : Unit -> List (k.val × e.val)} {l' : Unit -> List (k'.val × e'.val)} (hi : SObj.map k' e' (fun _ => l' ()) = .map k e (fun _ => l ()))
  (h : (SObj.map k' e' l').ok M ρ w v) : (SObj.map k e l).ok M ρ' w v := by
 have h2 : (SObj.map k' e' (fun _ => l' ())).ok M ρ w v := h
 rw [hi] at h2
 exact h2
theorem SObj.ok_imp {M : Mem} {σ : Nat -> Nat} {ρ : Names} {w : World} {v : Value} {o' o : SObj} {n : Nat} (h : o'.ok M ρ w v) (hi : impO σ (some o') o) (hb : ∀ pv, o = .var pv -> pv.under n = true) : o.ok M (pullN σ ρ n) w v := by
 cases o with
 | var pv =>
   cases o' <;> simp only [impO] at hi
   obtain ⟨b, c, t, h1, h2, h3, h4⟩ := h
   exact ⟨b, c, t, h1, h2, rel_pull _ (hb pv rfl) (impP_ok _ _ hi h3), h4⟩
 | own e t => cases o' <;> simp only [impO] at hi; obtain ⟨rfl, rfl⟩ := hi; exact h
 | map k e l =>
   cases o' <;> simp only [impO] at hi <;> try (exact hi.elim)
   rename_i k' e' l'
   exact SObj.ok_map hi h
 | raw e => cases o' <;> simp only [impO] at hi; subst hi; exact h
 | ghost Y s i =>
   cases o' <;> simp only [impO] at hi
   obtain ⟨rfl, h1, h2⟩ := hi
   change Yd.J _ (s ()) (i ()) ρ.K M w
   rw [<- h1, <- h2]; exact h
theorem impO_G {σ : Nat -> Nat} {o' o : SObj} (h : impO σ (some o') o) : o'.isG = o.isG := by
 cases o' <;> cases o <;> first | rfl | exact h.elim
theorem impG_get {σ : Nat -> Nat} {g : Sto} : ∀ {S : Store}, impG σ g S -> ∀ id o, S.get id = some o -> ∃ o', g (σ id) = some o' /\ impO σ (some o') o
 | [], _, id, o, h => by simp [Store.get] at h
 | (i, x) :: r, h, id, o, hg => by
   simp only [Store.get] at hg
   cases hb : beqN i id with
   | true =>
     simp only [hb, cond_true, Option.some.injEq] at hg
     obtain rfl : i = id := by simpa using hb
     subst hg
     cases h2 : g (σ i) with
     | none => have := h.1; rw [h2] at this; simp [impO] at this
     | some o' => exact ⟨o', rfl, by have := h.1; rw [h2] at this; exact this⟩
   | false =>
     simp only [hb, cond_false] at hg
     exact impG_get h.2 id o hg
theorem pull_has {σ : Nat -> Nat} {ρ : Names} {n id : Nat} (h : id < n) {o' o : SObj} (hi : impO σ (some o') o) (b : Nat) : has (pullN σ ρ n) id o b ↔ has ρ (σ id) o' b := by
 have hG := impO_G hi
 cases hb : o.isG with
 | false =>
   rw [has_at hb, has_at (hG.trans hb)]
   simp only [at?, pullN_lt h]
 | true =>
   cases o <;> first | (cases hb; done) | (cases o' <;> first | exact Iff.rfl | exact hi.elim)
theorem pull_inv {σ : Nat -> Nat} {M : Mem} {ρ : Names} {g : Sto} {w : World} {S : Store} {n : Nat} (hI : Inv M ρ g w) (hS : belowS n S = true) (hinj : injS σ S = true) (hSe : impG σ g S) :
  Inv M (pullN σ ρ n) S.get w /\ ∀ b, occ (pullN σ ρ n) S.get b -> ∃ id o', S.get id ≠ none /\ id < n /\ g (σ id) = some o' /\ has ρ (σ id) o' b := by
 have hobj : ∀ id o, S.get id = some o -> id < n /\ ∃ o', g (σ id) = some o' /\ impO σ (some o') o := fun id o ho => ⟨(belowS_get hS id o ho).1, impG_get hSe id o ho⟩
 have hoc : ∀ b, occ (pullN σ ρ n) S.get b -> ∃ id o', S.get id ≠ none /\ id < n /\ g (σ id) = some o' /\ has ρ (σ id) o' b := by
  rintro b ⟨id, o, ho, hb⟩
  obtain ⟨k1, o', k2, k3⟩ := hobj id o ho
  exact ⟨id, o', by rw [ho]; simp, k1, k2, (pull_has k1 k3 b).1 hb⟩
 refine ⟨⟨hI.mem, fun id o ho => ?_, fun id id' o o' ho ho' hne b hb hb' => ?_, fun id id' o o' ho ho' hg hg' => ?_, fun b o ho => ⟨(hI.stat b o ho).1, fun hc => by
  obtain ⟨id, o', _, _, h2, h3⟩ := hoc b hc
  exact (hI.stat b o ho).2 ⟨_, o', h2, h3⟩⟩⟩, hoc⟩
 ·obtain ⟨h1, o', h2, h3⟩ := hobj id o ho
  obtain ⟨v, hv, hok⟩ := hI.obj _ o' h2
  exact ⟨v, by rw [pullN_lt h1]; exact hv, SObj.ok_imp hok h3 (belowS_get hS id o ho).2⟩
 ·obtain ⟨h1, x, h2, h3⟩ := hobj id o ho
  obtain ⟨h1', x', h2', h3'⟩ := hobj id' o' ho'
  rw [pull_has h1 h3] at hb
  rw [pull_has h1' h3'] at hb'
  obtain ⟨y, hy⟩ := get_mem ho
  obtain ⟨y', hy'⟩ := get_mem ho'
  exact hI.apart _ _ x x' h2 h2' (injS_ne hinj hy hy' hne) b hb hb'
 ·obtain ⟨h1, x, h2, h3⟩ := hobj id o ho
  obtain ⟨h1', x', h2', h3'⟩ := hobj id' o' ho'
  have e := hI.one _ _ x x' h2 h2' ((impO_G h3).trans hg) ((impO_G h3').trans hg')
  by_cases hne : id = id'
  ·exact hne
  ·obtain ⟨y, hy⟩ := get_mem ho
   obtain ⟨y', hy'⟩ := get_mem ho'
   exact absurd e (injS_ne hinj hy hy' hne)
theorem run_move {X : Ctx} {fn : Func} {Q : PV -> Store -> Prop} {k : List It} (σ : Nat -> Nat) {A A' : Env} {S S' : Store} {n n' : Nat} (hk : plainK k = true) (h : RunC P X fn Q ⟨k, A, S, n⟩) (hA : belowA n A = true) (hS : belowS n S = true) (h0 : bleN X.n0 n = true)
  (hid : idS σ X.n0 = true) (hinj : injS σ S = true) (hAe : impA σ A' A) (hSe : impS σ S' S) : RunC P X fn Q ⟨k, A', S', n'⟩ := by
 refine (run_plain hk).2 (mach_else ((run_plain hk).1 h) fun M ρ w a ds hG hI hf hm hR => ?_)
 have h0' : X.n0 <= n := by simpa using h0
 obtain ⟨k1, k2⟩ := pull_inv hI hS hinj (impS_G hSe)
 refine ⟨M, pullN σ ρ n, Mem.le_refl _, k1, fun id hid => by simp only [pullN]; rw [if_neg (Nat.not_lt.2 hid)], h0', ⟨fun t => ?_, hR.size, hR.defers⟩, fun id hid' => by rw [pullN_lt (by omega), idS_eq hid id hid'],
  fun b hb => by obtain ⟨id, o', _, _, h2, h3⟩ := k2 b hb; exact ⟨_, o', h2, h3⟩, fun b i h1 h2 => absurd h2 h1, rfl⟩
 rcases impA_get hAe t with h1 | h1
 ·rw [h1]; exact ⟨rfl, _, rfl⟩
 ·exact rel_pull _ (belowA_get hA t) (impP_ok _ _ h1 (hR.slot t))
end Go.Abs
namespace Go.Abs
variable {P : Program} {G : Gs}
def PV.mrg (c : Unit -> Bool) : PV -> PV -> PV
 | .int k a, .int k' b => bif decide (k = k') then .int k (fun _ => bif c () then a () else b ()) else bif c () then .int k a else .int k' b
 | .str a, .str b => .str fun _ => bif c () then a () else b ()
 | .bool a, .bool b => .bool fun _ => bif c () then a () else b ()
 | .tt, .bool b => .bool fun _ => bif c () then true else b ()
 | .ff, .bool b => .bool fun _ => bif c () then false else b ()
 | .bool a, .tt => .bool fun _ => bif c () then a () else true
 | .bool a, .ff => .bool fun _ => bif c () then a () else false
 | .tt, .tt => .tt
 | .ff, .ff => .ff
 | .tt, .ff => .bool fun _ => c ()
 | .ff, .tt => .bool fun _ => !c ()
 | .agg l, .agg l' => .agg (PV.mrg c l l')
 | .cons x r, .cons x' r' => .cons (PV.mrg c x x') (PV.mrg c r r')
 | .nil, .nil => .nil
 | .nilp, .nilp => .nilp
 | .nils, .nils => .nils
 | .slice none esz len f, .slice none esz' len' f' => bif beqN esz esz' then .slice none esz (fun _ => bif c () then len () else len' ()) (fun j => PV.mrg c (f j) (f' j)) else bif c () then .slice none esz len f else .slice none esz' len' f'
 | p, q => bif c () then p else q
theorem mrg_tt {M : Mem} {c : Unit -> Bool} (hc : c () = true) : ∀ (p q : PV) {ρ : Names} {m : Mode} {vs : List Value}, rel M p ρ m vs -> rel M (PV.mrg c p q) ρ m vs := by
 intro p
 induction p with
 | int k a =>
   intro q ρ m vs h
   cases q <;> simp only [PV.mrg, hc, cond_true] <;> try exact h
   rename_i k' b
   by_cases e : k = k'
   · simpa [e, rel, hc] using (e ▸ h)
   · simpa [e] using h
 | str a => intro q ρ m vs h; cases q <;> simp only [PV.mrg, hc, cond_true] <;> first | exact h | (simpa [rel, hc] using h)
 | bool a => intro q ρ m vs h; cases q <;> simp only [PV.mrg, hc, cond_true] <;> first | exact h | (simpa [rel, hc] using h)
 | tt => intro q ρ m vs h; cases q <;> simp only [PV.mrg, hc, cond_true] <;> first | exact h | (simpa [rel, hc] using h)
 | ff => intro q ρ m vs h; cases q <;> simp only [PV.mrg, hc, cond_true] <;> first | exact h | (simpa [rel, hc] using h)
 | agg l ih =>
   intro q ρ m vs h
   cases q <;> simp only [PV.mrg, hc, cond_true] <;> try exact h
   rcases h with ⟨h1, h2⟩ | ⟨h1, cs, h2, h3⟩
   · exact .inl ⟨h1, ih _ h2⟩
   · exact .inr ⟨h1, cs, h2, ih _ h3⟩
 | cons x r ih1 ih2 =>
   intro q ρ m vs h
   cases q <;> simp only [PV.mrg, hc, cond_true] <;> try exact h
   rcases h with ⟨h1, a, d, h2, h3, h4⟩ | ⟨h1, v, ws, h2, h3, h4⟩
   · exact .inl ⟨h1, a, d, h2, ih1 _ h3, ih2 _ h4⟩
   · exact .inr ⟨h1, v, ws, h2, ih1 _ h3, ih2 _ h4⟩
 | slice tok esz len f ih =>
   intro q ρ m vs h
   cases tok with
   | some id => cases q <;> simp only [PV.mrg, hc, cond_true] <;> exact h
   | none =>
     cases q with
     | slice tok' esz' len' f' =>
       cases tok' with
       | some id => simp only [PV.mrg, hc, cond_true]; exact h
       | none =>
         simp only [PV.mrg]
         cases hb : beqN esz esz' with
         | false => simp only [hc, cond_true, cond_false]; exact h
         | true =>
           simp only [cond_true]
           obtain ⟨a, n, cap, h1, h2, h3, h4, h5, h6⟩ := h
           refine ⟨a, n, cap, h1, by simp [hc, h2], h3, h4, h5, fun hn => ?_⟩
           obtain ⟨b, base, e, hr⟩ := h6 hn
           exact ⟨b, base, e, fun j hj => let ⟨cs, k1, k2, k3⟩ := hr j hj; ⟨cs, k1, ih _ _ k2, k3⟩⟩
     | _ => simp only [PV.mrg, hc, cond_true]; exact h
 | _ => intro q ρ m vs h; cases q <;> simp only [PV.mrg, hc, cond_true] <;> exact h
theorem mrg_ff {M : Mem} {c : Unit -> Bool} (hc : c () = false) : ∀ (p q : PV) {ρ : Names} {m : Mode} {vs : List Value}, rel M q ρ m vs -> rel M (PV.mrg c p q) ρ m vs := by
 intro p
 induction p with
 | int k a =>
   intro q ρ m vs h
   cases q <;> simp only [PV.mrg, hc, cond_false] <;> try exact h
   rename_i k' b
   by_cases e : k = k'
   · subst e; simpa [rel, hc] using h
   · simpa [e] using h
 | str a => intro q ρ m vs h; cases q <;> simp only [PV.mrg, hc, cond_false] <;> first | exact h | (simpa [rel, hc] using h)
 | bool a => intro q ρ m vs h; cases q <;> simp only [PV.mrg, hc, cond_false] <;> first | exact h | (simpa [rel, hc] using h)
 | tt => intro q ρ m vs h; cases q <;> simp only [PV.mrg, hc, cond_false] <;> first | exact h | (simpa [rel, hc] using h)
 | ff => intro q ρ m vs h; cases q <;> simp only [PV.mrg, hc, cond_false] <;> first | exact h | (simpa [rel, hc] using h)
 | agg l ih =>
   intro q ρ m vs h
   cases q <;> simp only [PV.mrg, hc, cond_false] <;> try exact h
   rcases h with ⟨h1, h2⟩ | ⟨h1, cs, h2, h3⟩
   · exact .inl ⟨h1, ih _ h2⟩
   · exact .inr ⟨h1, cs, h2, ih _ h3⟩
 | cons x r ih1 ih2 =>
   intro q ρ m vs h
   cases q <;> simp only [PV.mrg, hc, cond_false] <;> try exact h
   rcases h with ⟨h1, a, d, h2, h3, h4⟩ | ⟨h1, v, ws, h2, h3, h4⟩
   · exact .inl ⟨h1, a, d, h2, ih1 _ h3, ih2 _ h4⟩
   · exact .inr ⟨h1, v, ws, h2, ih1 _ h3, ih2 _ h4⟩
 | slice tok esz len f ih =>
   intro q ρ m vs h
   cases tok with
   | some id => cases q <;> simp only [PV.mrg, hc, cond_false] <;> exact h
   | none =>
     cases q with
     | slice tok' esz' len' f' =>
       cases tok' with
       | some id => simp only [PV.mrg, hc, cond_false]; exact h
       | none =>
         simp only [PV.mrg]
         cases hb : beqN esz esz' with
         | false => simp only [hc, cond_false]; exact h
         | true =>
           obtain rfl : esz = esz' := by simpa using hb
           simp only [cond_true]
           obtain ⟨a, n, cap, h1, h2, h3, h4, h5, h6⟩ := h
           refine ⟨a, n, cap, h1, by simp [hc, h2], h3, h4, h5, fun hn => ?_⟩
           obtain ⟨b, base, e, hr⟩ := h6 hn
           exact ⟨b, base, e, fun j hj => let ⟨cs, k1, k2, k3⟩ := hr j hj; ⟨cs, k1, ih _ _ k2, k3⟩⟩
     | _ => simp only [PV.mrg, hc, cond_false]; exact h
 | _ => intro q ρ m vs h; cases q <;> simp only [PV.mrg, hc, cond_false] <;> exact h
end Go.Abs
namespace Go.Abs
variable {P : Program} {G : Gs}
theorem rel_ones {M : Mem} : ∀ (pv : PV) {ρ : Names} {cs : List Value}, rel M pv ρ .cells cs -> ∀ u ∈ cs, u.oneCell' = true := by
 intro pv
 induction pv with
 | agg l ih =>
   intro ρ cs h u hu
   rcases h with ⟨_, h⟩ | ⟨h, _⟩
   · exact ih h u hu
   · cases h
 | cons x r ih1 ih2 =>
   intro ρ cs h u hu
   rcases h with ⟨_, a, d, rfl, h1, h2⟩ | ⟨h, _⟩
   · rcases List.mem_append.1 hu with hu | hu
     · exact ih1 h1 u hu
     · exact ih2 h2 u hu
   · cases h
 | nil => intro ρ cs ⟨_, h⟩ u hu; subst h; cases hu
 | undef => intro ρ cs ⟨h, _⟩; cases h
 | tuple l _ => intro ρ cs ⟨h, _⟩; cases h
 | arrI k n l =>
   intro ρ cs ⟨_, h⟩ u hu
   rcases h with ⟨_, rfl⟩ | ⟨h, _⟩
   · obtain ⟨i, _, rfl⟩ := List.mem_map.1 hu; rfl
   · cases h
 | arrB n l =>
   intro ρ cs ⟨_, h⟩ u hu
   rcases h with ⟨_, rfl⟩ | ⟨h, _⟩
   · obtain ⟨i, _, rfl⟩ := List.mem_map.1 hu; rfl
   · cases h
 | arrS n l =>
   intro ρ cs ⟨_, h⟩ u hu
   rcases h with ⟨_, rfl⟩ | ⟨h, _⟩
   · obtain ⟨i, _, rfl⟩ := List.mem_map.1 hu; rfl
   · cases h
 | tt => intro ρ cs ⟨_, h⟩ u hu; subst h; simp only [List.mem_singleton] at hu; subst hu; rfl
 | ff => intro ρ cs ⟨_, h⟩ u hu; subst h; simp only [List.mem_singleton] at hu; subst hu; rfl
 | bool b => intro ρ cs ⟨_, h⟩ u hu; subst h; simp only [List.mem_singleton] at hu; subst hu; rfl
 | int k n => intro ρ cs ⟨_, h⟩ u hu; subst h; simp only [List.mem_singleton] at hu; subst hu; rfl
 | str s => intro ρ cs ⟨_, h⟩ u hu; subst h; simp only [List.mem_singleton] at hu; subst hu; rfl
 | nilp => intro ρ cs ⟨_, h⟩ u hu; subst h; simp only [List.mem_singleton] at hu; subst hu; rfl
 | nils => intro ρ cs ⟨_, h⟩ u hu; subst h; simp only [List.mem_singleton] at hu; subst hu; rfl
 | nilm => intro ρ cs ⟨_, h⟩ u hu; subst h; simp only [List.mem_singleton] at hu; subst hu; rfl
 | nilf => intro ρ cs ⟨_, h⟩ u hu; subst h; simp only [List.mem_singleton] at hu; subst hu; rfl
 | nili => intro ρ cs ⟨_, h⟩ u hu; subst h; simp only [List.mem_singleton] at hu; subst hu; rfl
 | ptr id off => intro ρ cs ⟨b, _, _, h⟩ u hu; subst h; simp only [List.mem_singleton] at hu; subst hu; rfl
 | ptri id off i => intro ρ cs ⟨b, _, _, _, h⟩ u hu; subst h; simp only [List.mem_singleton] at hu; subst hu; rfl
 | eptr esz len f i off _ => intro ρ cs ⟨b, _, _, _, _, _, _, _, h⟩ u hu; subst h; simp only [List.mem_singleton] at hu; subst hu; rfl
 | eptri esz len f i off j _ => intro ρ cs ⟨b, _, _, _, _, _, _, _, _, h⟩ u hu; subst h; simp only [List.mem_singleton] at hu; subst hu; rfl
 | slice tok esz len f _ => intro ρ cs ⟨a, n, cap, ⟨_, h⟩, _⟩ u hu; subst h; simp only [List.mem_singleton] at hu; subst hu; rfl
 | map id => intro ρ cs ⟨b, _, _, h⟩ u hu; subst h; simp only [List.mem_singleton] at hu; subst hu; rfl
 | func fn a b _ _ => intro ρ cs ⟨fs, gs, ⟨_, h⟩, _⟩ u hu; subst h; simp only [List.mem_singleton] at hu; subst hu; rfl
 | iface t x _ => intro ρ cs ⟨v, ⟨_, h⟩, _⟩ u hu; subst h; simp only [List.mem_singleton] at hu; subst hu; rfl
def rowL (M : Mem) (b base k : Nat) : List Value := (List.range k).map fun j => (M b (base + j)).getD Go.undef
theorem rowL_length (M : Mem) (b base k : Nat) : (rowL M b base k).length = k := by simp [rowL]
theorem rowL_get {M : Mem} {b base k j : Nat} (h : j < k) : (rowL M b base k)[j]? = some ((M b (base + j)).getD Go.undef) := by simp [rowL, h]
theorem row_some {M : Mem} {b base esz n : Nat} {f : (Unit -> Int) -> PV} (h : row M b base esz n f) (i : Nat) (hi : i < n * esz) : ∃ v, M b (base + i) = some v /\ v.oneCell' = true := by
 have he : 0 < esz := by
  rcases Nat.eq_zero_or_pos esz with e | e
  ·subst e; simp at hi
  ·exact e
 obtain ⟨cs, h1, h2, h3⟩ := h (i / esz) (Nat.div_lt_of_lt_mul (by rw [Nat.mul_comm]; exact hi))
 have hq := h3 (i % esz) (Nat.mod_lt _ he)
 have e : base + i / esz * esz + i % esz = base + i := by
  have := Nat.div_add_mod i esz
  rw [Nat.mul_comm] at this
  omega
 rw [e] at hq
 have hlt : i % esz < cs.length := by rw [h1]; exact Nat.mod_lt _ he
 rw [List.getElem?_eq_getElem hlt] at hq
 exact ⟨_, hq, rel_ones _ h2 _ (List.getElem_mem _)⟩
theorem row_get {M : Mem} {b base esz n : Nat} {f : (Unit -> Int) -> PV} (h : row M b base esz n f) {i : Nat} (hi : i < n * esz) : M b (base + i) = (rowL M b base (n * esz))[i]? := by
 obtain ⟨v, hv, _⟩ := row_some h i hi
 rw [rowL_get hi, hv]; rfl
theorem row_ones {M : Mem} {b base esz n : Nat} {f : (Unit -> Int) -> PV} (h : row M b base esz n f) : ∀ u ∈ rowL M b base (n * esz), u.oneCell' = true := by
 intro u hu
 simp only [rowL, List.mem_map, List.mem_range] at hu
 obtain ⟨j, hj, rfl⟩ := hu
 obtain ⟨v, hv, h1⟩ := row_some h j hj
 rw [hv]; exact h1
theorem row_append {M M' : Mem} (hM : M.le M') {b base b2 base2 esz n m : Nat} {f f2 f' : (Unit -> Int) -> PV} (h1 : row M b base esz n f) (h2 : row M b2 base2 esz m f2) {g : Nat}
  (hg : ∀ (i : Nat), i < (n + m) * esz -> M' g i = (rowL M b base (n * esz) ++ rowL M b2 base2 (m * esz))[i]?)
  (hf : ∀ (j : Nat) (cs : List Value), j < n -> rel M' (f fun _ => (j : Int)) noNames .cells cs -> rel M' (f' fun _ => (j : Int)) noNames .cells cs)
  (hf2 : ∀ (j : Nat) (cs : List Value), j < m -> rel M' (f2 fun _ => (j : Int)) noNames .cells cs -> rel M' (f' fun _ => ((n + j : Nat) : Int)) noNames .cells cs) : row M' g 0 esz (n + m) f' := by
 intro j hj
 by_cases hjn : j < n
 ·obtain ⟨cs, k1, k2, k3⟩ := h1 j hjn
  refine ⟨cs, k1, hf j cs hjn (rel_mono hM _ (Names.le_refl _) k2), fun q hq => ?_⟩
  have hlt : j * esz + q < n * esz := by
   have : (j + 1) * esz <= n * esz := Nat.mul_le_mul_right _ hjn
   rw [Nat.add_mul] at this; omega
  have hlt' : j * esz + q < (n + m) * esz := by rw [Nat.add_mul]; omega
  rw [Nat.zero_add, hg _ hlt', List.getElem?_append_left (by rw [rowL_length]; exact hlt), <- row_get h1 hlt, <- k3 q hq, Nat.add_assoc]
 ·obtain ⟨i, rfl⟩ : ∃ i, j = n + i := ⟨j - n, by omega⟩
  obtain ⟨cs, k1, k2, k3⟩ := h2 i (by omega)
  refine ⟨cs, k1, hf2 i cs (by omega) (rel_mono hM _ (Names.le_refl _) k2), fun q hq => ?_⟩
  have hlt : i * esz + q < m * esz := by
   have : (i + 1) * esz <= m * esz := Nat.mul_le_mul_right _ (by omega)
   rw [Nat.add_mul] at this; omega
  have hlt' : (n + i) * esz + q < (n + m) * esz := by rw [Nat.add_mul, Nat.add_mul]; omega
  rw [Nat.zero_add, hg _ hlt', List.getElem?_append_right (by rw [rowL_length, Nat.add_mul]; omega), rowL_length]
  rw [show (n + i) * esz + q - n * esz = i * esz + q by rw [Nat.add_mul]; omega, <- row_get h2 hlt, <- k3 q hq, Nat.add_assoc]
def withRow (M : Mem) (g : Nat) (cs : List Value) : Mem := ⟨fun b i => if b = g then cs[i]? else M b i, M.stat⟩
theorem app_done {M : Mem} {ρ : Names} {g : Sto} {w w' : World} {n0 id0 : Nat} {F : List Nat} (hF : F = [] \/ F = [id0]) (hI : Inv M ρ (only g F) w) (hn : ρ n0 = none) {own0 : Option (Nat × Nat)}
  {esz el n cap g0 : Nat} {c' : Array Value} {tot : List Value} (hne : n0 ∉ F)
  (hos : w'.os = w.os) (htape : w'.tape = w.tape) (hout : w'.output = w.output) (hsize : w.heap.size <= w'.heap.size)
  (hcell : w'.heap[g0]? = some (.cells c' el (0, 0))) (hcs : c'.size = cap * esz) (hnc : n <= cap) (hcm : cap <= maxLen) (htl : tot.length = n * esz) (htot : ∀ (i : Nat) (v : Value), tot[i]? = some v -> c'[i]? = some v)
  (hg0 : w.heap.size <= g0 \/ occ ρ (only g F) g0) (hold : ∀ b, b < w.heap.size -> b ≠ g0 -> w'.heap[b]? = w.heap[b]?) (hM : ∀ i v, M g0 i = some v -> tot[i]? = some v) :
  Adv M ρ (only g F) w n0 (n0 + 1) (withRow M g0 tot) (bind1 ρ n0 (.slice (some ⟨g0, 0, none⟩) n cap)) (updW (only g F) ((F.map fun i => (i, none)) ++ [(n0, some (.own esz el))])) w' /\
  Inv (withRow M g0 tot) (bind1 ρ n0 (.slice (some ⟨g0, 0, none⟩) n cap)) (updW (only g F) ((F.map fun i => (i, none)) ++ [(n0, some (.own esz el))])) w' := by
 have hle : M.le (withRow M g0 tot) := by
  refine ⟨fun b i v hv => ?_, fun _ _ h => h⟩
  change (if b = g0 then tot[i]? else M b i) = some v
  split
  ·rename_i e; subst e; exact hM i v hv
  ·exact hv
 have hρ := le_bind1 hn (.slice (some ⟨g0, 0, none⟩) n cap)
 have hg : ∀ id o, updW (only g F) ((F.map fun i => (i, none)) ++ [(n0, some (.own esz el))]) id = some o -> id = n0 /\ o = .own esz el := by
  intro id o ho
  rcases hF with rfl | rfl
  ·simp only [List.map_nil, List.nil_append, updW] at ho
   split at ho
   ·exact ⟨‹_›, by simpa using ho.symm⟩
   ·simp [only] at ho
  ·simp only [List.map_cons, List.map_nil, List.cons_append, List.nil_append, updW] at ho
   split at ho
   ·exact ⟨‹_›, by simpa using ho.symm⟩
   ·split at ho
    ·cases ho
    ·simp [only, *] at ho
 have hat : at? (bind1 ρ n0 (.slice (some ⟨g0, 0, none⟩) n cap)) n0 = some g0 := by simp [at?, bind1, nblk]
 have hself : updW (only g F) ((F.map fun i => (i, none)) ++ [(n0, some (.own esz el))]) n0 = some (.own esz el) := by
  rcases hF with rfl | rfl <;> simp [updW]
 have hA : Adv M ρ (only g F) w n0 (n0 + 1) (withRow M g0 tot) (bind1 ρ n0 (.slice (some ⟨g0, 0, none⟩) n cap)) (updW (only g F) ((F.map fun i => (i, none)) ++ [(n0, some (.own esz el))])) w' := by
  refine ⟨hle, hρ, fun id h0 h1 => ?_, hos, htape, hout, hsize, fun b hb ho => ?_, fun b ⟨id, o, ho, hb⟩ => ?_, fun b i h1 h0 => ?_, fun _ => ⟨rfl, fun id o ho => by rw [(hg id o ho).2]; rfl⟩, rfl⟩
  ·change (if id = n0 then some (.slice (some ⟨g0, 0, none⟩) n cap) else ρ id) ≠ none at h1
   split at h1
   ·omega
   ·exact absurd h0 h1
  ·refine hold b hb fun e => ?_
   subst e
   rcases hg0 with h | h
   ·omega
   ·exact ho h
  ·obtain ⟨rfl, rfl⟩ := hg id o ho
   rw [has_at rfl, hat] at hb
   simp only [Option.some.injEq] at hb
   subst hb
   exact hg0
  ·change (if b = g0 then tot[i]? else M b i) ≠ none at h1
   split at h1
   ·rename_i e; subst e; exact hg0
   ·exact absurd h0 h1
 refine ⟨hA, ⟨fun b i v hm => ?_, fun id o ho => ?_, fun id id' o o' ho ho' hne' => ?_, fun id id' o o' ho ho' _ _ => (hg id o ho).1.trans (hg id' o' ho').1.symm, hA.stat hI⟩⟩
 ·change (if b = g0 then tot[i]? else M b i) = some v at hm
  split at hm
  ·rename_i e; subst e
   rw [cells_of_block hcell]
   exact htot i v hm
  ·rename_i e
   rw [cell_of_heap (hold b (hI.mem_lt hm) e)]
   exact hI.mem b i v hm
 ·obtain ⟨rfl, rfl⟩ := hg id o ho
  refine ⟨_, by simp [bind1], .inr ⟨g0, n, cap, c', rfl, hnc, hcm, hcell, hcs, fun i hi => ?_⟩⟩
  change (if g0 = g0 then tot[i]? else M g0 i) ≠ none at hi
  rw [if_pos rfl] at hi
  by_cases h : i < n * esz
  ·exact h
  ·exact absurd (List.getElem?_eq_none (by omega)) hi
 ·exact absurd ((hg id o ho).1.trans (hg id' o' ho').1.symm) hne'
end Go.Abs
namespace Go.Abs
variable {P : Program} {G : Gs}
def appE (T : Nat -> Option TI) : OpX := fun e g n op => match op with
 | .call c => match c.callee, c.args.toList, c.argTypes.toList with
   | .builtin .append, [s, x], [t, t'] => bif beqN t t' then (match T t with
     | some ⟨.slice el, _, _, _⟩ => match T el with
       | some i => match e x with
         | .slice _ esz2 len2 f2 => bif beqN esz2 i.size && bltN 0 i.size && bltN 0 i.bytes then (match e s with
           | .nils => some { v := .slice (some n) i.size len2 f2, W := [(n, some (.own i.size el))], n := n + 1, C := [fun _ => 0 < len2 () /\ len2 () * i.bytes <= 140737488355328] }
           | .slice (some id) esz len f => bif beqN esz i.size then (match g id with
             | some (.own esz' el') => bif beqN esz' esz && beqN el' el && bltN id n then
               some { v := .slice (some n) esz (fun _ => len () + len2 ()) (fun j => PV.mrg (fun _ => decide (j () < len ())) (f j) (f2 fun _ => j () - len ())), F := [id], W := [(id, none), (n, some (.own esz el))], n := n + 1, C := [fun _ => 0 < len2 () /\ (len () + len2 ()) * i.bytes <= 140737488355328] } else none
             | _ => none) else none
           | _ => none) else none
         | _ => none
       | none => none
     | _ => none) else none
   | _, _, _ => none
 | _ => none
theorem exec_append {ev : Operand -> Value} {o : Oper} {c : Call} {s x : Operand} {t : TypeId} {w w' : World} {v : Value} (ho : o.op = .call c) (h1 : c.callee = .builtin .append) (h2 : c.args = #[s, x]) (h3 : c.argTypes = #[t, t])
  (hr : (Builtin.append_ #[t, t] o.type #[ev s, ev x]).run P w = .ok v w') : (execOp ev o).run P w = .ok (.value v) w' := by
 unfold execOp
 simp only [ho, resolve, h1, h2, h3, invoke, builtin, Sem.run_bind, Sem.run_pure, Result.andThen_ok, List.map_toArray, List.map_cons, List.map_nil, hr]
theorem rel_in_row {M : Mem} {f : (Unit -> Int) -> PV} {i i' : Unit -> Int} {cs : List Value} (h : i () = i' ()) (hr : rel M (f i) noNames .cells cs) : rel M (f i') noNames .cells cs := by
 have : i = i' := funext fun u => h
 rwa [this] at hr
theorem app_nil {t el : TypeId} {i : TI} (ht : P.underlying t = some (.slice el)) (hi : TOK P el i) {M : Mem} {ρ : Names} {g : Sto} {w : World} {n id0 : Nat} {F : List Nat} (hF : F = [] \/ F = [id0]) (hI : Inv M ρ (only g F) w) (hn : ρ n = none) (hne : n ∉ F)
  (h0 : 0 < i.size) (ty : TypeId) {m cap2 : Nat} {b2 base2 : Nat} {f2 : (Unit -> Int) -> PV} (hrow : row M b2 base2 i.size m f2) (hm : 0 < m) (hb : m * i.bytes <= 140737488355328) (hby : 0 < i.bytes) :
  ∃ v w' M' ρ', (Builtin.append_ #[t, t] ty #[.slice none 0 0, .slice (some ⟨b2, base2, none⟩) m cap2]).run P w = .ok v w' /\
    Adv M ρ (only g F) w n (n + 1) M' ρ' (updW (only g F) ((F.map fun i => (i, none)) ++ [(n, some (.own i.size el))])) w' /\ Inv M' ρ' (updW (only g F) ((F.map fun i => (i, none)) ++ [(n, some (.own i.size el))])) w' /\
    ∀ (len : Unit -> Int) (f' : (Unit -> Int) -> PV), len () = m -> (∀ (j : Nat) (cs : List Value), j < m -> rel M' (f2 fun _ => (j : Int)) noNames .cells cs -> rel M' (f' fun _ => (j : Int)) noNames .cells cs) ->
      rel M' (.slice (some n) i.size len f') ρ' .val [v] := by
 obtain ⟨inf, z, k1, k2, k3, k4, k5⟩ := hi.info
 have hml : m <= 140737488355328 := Nat.le_trans (Nat.le_mul_of_pos_right m hby) hb
 have hmx : m <= maxLen := by simp only [maxLen]; omega
 have hz : z.cells.size = i.size := by
  have hx := rel_cells hi.wide k5
  have := rel_size _ hx
  rw [hi.size, <- this]; simp
 have hcells : ∀ j u, (rowL M b2 base2 (m * i.size))[j]? = some u -> w.cell? ((⟨b2, base2, none⟩ : Addr).add j) = some u := by
  intro j u hu
  have hlt : j < m * i.size := by
   have := (List.getElem?_eq_some_iff.1 hu).1
   rwa [rowL_length] at this
  obtain ⟨v, hv, _⟩ := row_some hrow j hlt
  rw [<- row_get hrow hlt, hv] at hu
  simp only [Option.some.injEq] at hu
  subst hu
  rw [Addr.add_lit]
  exact hI.mem _ _ _ hv
 have hrun := run_append_nil (P := P) w t ty el inf z ht k1 k4 ⟨b2, base2, none⟩ m cap2 (rowL M b2 base2 (m * i.size)) (by rw [rowL_length, k2]) hcells hm (by omega) (by rw [k3]; omega)
 have hge := grownCap_ge w m 0 el
 have hcm := grownCap_le_maxLen w m 0 el hmx
 obtain ⟨r1, r2⟩ := app_done (w' := w.drew.alloc (.cells ((rowL M b2 base2 (m * i.size)).toArray ++ Builtin.zeroCells z.cells (grownCap w m 0 el - m)) el)) hF hI hn (own0 := none) (esz := i.size) (el := el) (n := m) (cap := grownCap w m 0 el) (g0 := w.heap.size) (tot := rowL M b2 base2 (m * i.size)) hne rfl rfl rfl (by simp) (heap_alloc_new w.drew _)
  (by simp only [Array.size_append, List.size_toArray, size_zeroCells, hz, rowL_length, <- Nat.add_mul]; congr 1; omega) hge hcm (rowL_length ..)
  (fun j u hu => by
   have hlt := (List.getElem?_eq_some_iff.1 hu).1
   rw [Array.getElem?_append_left (by simpa using hlt)]; simpa using hu)
  (.inl (Nat.le_refl _)) (fun b hb _ => alloc_heap_old w.drew _ hb) (fun j v hv => by rw [hI.mem_new] at hv; cases hv)
 refine ⟨_, _, _, _, hrun, r1, r2, fun len f' hl hf => ⟨_, m, _, ⟨by simp, rfl⟩, by omega, hge, hcm, fun id hid => ?_, fun _ => ⟨w.heap.size, 0, rfl, ?_⟩⟩⟩
 ·simp only [Option.some.injEq] at hid; subst hid; simp [bind1]
 ·have hr0 : row M b2 base2 i.size 0 f2 := fun j hj => by omega
  have := row_append r1.mem hr0 hrow (g := w.heap.size) (f' := f') (fun j hj => by
   simp only [withRow, if_pos]
   simp [rowL]) (fun j cs hj => by omega) (fun j cs hj h => by simpa using hf j cs hj h)
  rw [Nat.zero_add] at this
  exact this
theorem app_own {t el : TypeId} {i : TI} (ht : P.underlying t = some (.slice el)) (hi : TOK P el i) {M : Mem} {ρ : Names} {g : Sto} {w : World} {n id : Nat} (hI : Inv M ρ (only g [id]) w) (hn : ρ n = none) (hne : n ∉ [id])
  (h0 : 0 < i.size) (ty : TypeId) (hg : g id = some (.own i.size el)) {b k cap : Nat} (hid : ρ id = some (.slice (some ⟨b, 0, none⟩) k cap)) {f : (Unit -> Int) -> PV} (hrow1 : row M b 0 i.size k f)
  {m cap2 : Nat} {b2 base2 : Nat} {f2 : (Unit -> Int) -> PV} (hrow : row M b2 base2 i.size m f2) (hm : 0 < m) (hb : (k + m) * i.bytes <= 140737488355328) (hby : 0 < i.bytes) :
  ∃ v w' M' ρ', (Builtin.append_ #[t, t] ty #[.slice (some ⟨b, 0, none⟩) k cap, .slice (some ⟨b2, base2, none⟩) m cap2]).run P w = .ok v w' /\
    Adv M ρ (only g [id]) w n (n + 1) M' ρ' (updW (only g [id]) [(id, none), (n, some (.own i.size el))]) w' /\ Inv M' ρ' (updW (only g [id]) [(id, none), (n, some (.own i.size el))]) w' /\
    ∀ (len : Unit -> Int) (f' : (Unit -> Int) -> PV), len () = (k + m : Nat) -> (∀ (j : Nat) (cs : List Value), j < k -> rel M' (f fun _ => (j : Int)) noNames .cells cs -> rel M' (f' fun _ => (j : Int)) noNames .cells cs) ->
      (∀ (j : Nat) (cs : List Value), j < m -> rel M' (f2 fun _ => (j : Int)) noNames .cells cs -> rel M' (f' fun _ => ((k + j : Nat) : Int)) noNames .cells cs) ->
      rel M' (.slice (some n) i.size len f') ρ' .val [v] := by
 obtain ⟨inf, z, k1, k2, k3, k4, k5⟩ := hi.info
 have hml : k + m <= 140737488355328 := Nat.le_trans (Nat.le_mul_of_pos_right _ hby) hb
 have hmx : k + m <= maxLen := by simp only [maxLen]; omega
 have hz : z.cells.size = i.size := by
  have hx := rel_cells hi.wide k5
  have := rel_size _ hx
  rw [hi.size, <- this]; simp
 have hcells : ∀ {b base n : Nat} {f : (Unit -> Int) -> PV}, row M b base i.size n f -> ∀ (j : Nat) u, (rowL M b base (n * i.size))[j]? = some u -> w.cell? ((⟨b, base, none⟩ : Addr).add j) = some u := by
  intro b base n f hrow j u hu
  have hlt : j < n * i.size := by
   have := (List.getElem?_eq_some_iff.1 hu).1
   rwa [rowL_length] at this
  obtain ⟨v, hv, _⟩ := row_some hrow j hlt
  rw [<- row_get hrow hlt, hv] at hu
  simp only [Option.some.injEq] at hu
  subst hu
  rw [Addr.add_lit]
  exact hI.mem _ _ _ hv
 obtain ⟨v0, hv0, hok⟩ := hI.obj id (.own i.size el) (by simp [only, hg])
 rw [hid] at hv0
 simp only [Option.some.injEq] at hv0
 subst hv0
 rcases hok with h | ⟨b', k', cap', c, e, hkc, hcm, hheap, hcs, hMb⟩
 ·simp at h
 simp only [Value.slice.injEq, Option.some.injEq, Addr.mk.injEq, and_true] at e
 obtain ⟨rfl, rfl, rfl⟩ := e
 have htl : (rowL M b 0 (k * i.size) ++ rowL M b2 base2 (m * i.size)).length = (k + m) * i.size := by rw [List.length_append, rowL_length, rowL_length, Nat.add_mul]
 have hMtot : ∀ (j : Nat) (v : Value), M b j = some v -> (rowL M b 0 (k * i.size) ++ rowL M b2 base2 (m * i.size))[j]? = some v := by
  intro j v hv
  have hj : j < k * i.size := hMb j (by rw [hv]; simp)
  rw [List.getElem?_append_left (by rw [rowL_length]; exact hj), <- row_get hrow1 hj, Nat.zero_add]; exact hv
 have hocc : occ ρ (only g [id]) b := ⟨id, .own i.size el, by simp [only, hg], by show at? ρ id = some b; simp [at?, hid, nblk]⟩
 have hend : ∀ {M' : Mem} {ρ' : Names} {g0 cap0 : Nat} {v : Value}, M' = withRow M g0 (rowL M b 0 (k * i.size) ++ rowL M b2 base2 (m * i.size)) -> v = .slice (some ⟨g0, 0, none⟩) (k + m) cap0 -> ρ' n = some v -> k + m <= cap0 -> cap0 <= maxLen -> M.le M' ->
   ∀ (len : Unit -> Int) (f' : (Unit -> Int) -> PV), len () = (k + m : Nat) -> (∀ (j : Nat) (cs : List Value), j < k -> rel M' (f fun _ => (j : Int)) noNames .cells cs -> rel M' (f' fun _ => (j : Int)) noNames .cells cs) ->
     (∀ (j : Nat) (cs : List Value), j < m -> rel M' (f2 fun _ => (j : Int)) noNames .cells cs -> rel M' (f' fun _ => ((k + j : Nat) : Int)) noNames .cells cs) ->
     rel M' (.slice (some n) i.size len f') ρ' .val [v] := by
  rintro M' ρ' g0 cap0 v rfl rfl hρ h1 h2 hle len f' hl hf hf2
  refine ⟨_, k + m, cap0, ⟨by simp, rfl⟩, by omega, h1, h2, fun id' hid' => ?_, fun _ => ⟨g0, 0, rfl, ?_⟩⟩
  ·simp only [Option.some.injEq] at hid'; subst hid'; exact hρ
  ·exact row_append hle hrow1 hrow (fun j hj => by simp only [withRow, if_pos]) hf hf2
 by_cases hroom : k + m <= cap
 ·have hfit : k * i.size + (rowL M b2 base2 (m * i.size)).length <= c.size := by rw [rowL_length, hcs, <- Nat.add_mul]; exact Nat.mul_le_mul_right _ hroom
  have hrun := run_append_room (P := P) w t ty el inf ht k1 b k cap c hheap ⟨b2, base2, none⟩ m cap2 (rowL M b2 base2 (m * i.size)) (by rw [rowL_length, k2]) (hcells hrow) (row_ones hrow) hroom (by rw [k2]; exact hfit)
  rw [k2] at hrun
  have htake : c.toList.take (k * i.size) = rowL M b 0 (k * i.size) := by
   apply List.ext_getElem?
   intro j
   by_cases hj : j < k * i.size
   ·rw [List.getElem?_take_of_lt hj, <- row_get hrow1 hj, Nat.zero_add]
    obtain ⟨v, hv, _⟩ := row_some hrow1 j hj
    rw [Nat.zero_add] at hv
    have := hI.mem b j v hv
    rw [cells_of_block hheap] at this
    rw [hv, <- this]; simp
   ·rw [List.getElem?_eq_none (by rw [List.length_take]; omega), List.getElem?_eq_none (by rw [rowL_length]; omega)]
  obtain ⟨r1, r2⟩ := app_done (n0 := n) (w' := w.setRow b (c.toList.take (k * i.size) ++ rowL M b2 base2 (m * i.size) ++ c.toList.drop (k * i.size + (rowL M b2 base2 (m * i.size)).length)).toArray) (.inr rfl) hI hn (own0 := none) (esz := i.size) (el := el) (n := k + m) (cap := cap) (g0 := b)
   (tot := rowL M b 0 (k * i.size) ++ rowL M b2 base2 (m * i.size)) hne rfl rfl rfl (by simp) (setRow_heap w b c _ el _ hheap)
   (by
    simp only [List.size_toArray, List.length_append, List.length_take, List.length_drop, Array.length_toList, rowL_length] at hfit ⊢
    have : k * i.size <= c.size := by omega
    omega) hroom hcm htl
   (fun j u hu => by
    have hlt := (List.getElem?_eq_some_iff.1 hu).1
    rw [htake]
    simp only [List.getElem?_toArray]
    rw [List.getElem?_append_left hlt]; exact hu)
   (.inr hocc) (fun b' _ hb' => setRow_other w b b' _ hb') hMtot
  exact ⟨_, _, _, _, hrun, r1, r2, hend rfl rfl (by simp [bind1]) hroom hcm r1.mem⟩
 ·have hrun := run_append_grow (P := P) w t ty el inf z ht k1 k4 ⟨b, 0, none⟩ k cap (rowL M b 0 (k * i.size)) (by rw [rowL_length, k2]) (hcells hrow1) ⟨b2, base2, none⟩ m cap2 (rowL M b2 base2 (m * i.size)) (by rw [rowL_length, k2]) (hcells hrow)
   (by omega) (by omega) (by rw [k3]; exact growslice_fits (by omega) hb)
  have hge := grownCap_ge w (k + m) cap el
  have hcm' := grownCap_le_maxLen w (k + m) cap el hmx
  obtain ⟨r1, r2⟩ := app_done (n0 := n) (w' := w.drew.alloc (.cells ((rowL M b 0 (k * i.size)).toArray ++ (rowL M b2 base2 (m * i.size)).toArray ++ Builtin.zeroCells z.cells (grownCap w (k + m) cap el - (k + m))) el)) (.inr rfl) hI hn (own0 := none) (esz := i.size) (el := el) (n := k + m) (cap := grownCap w (k + m) cap el) (g0 := w.heap.size)
   (tot := rowL M b 0 (k * i.size) ++ rowL M b2 base2 (m * i.size)) hne rfl rfl rfl (by simp) (heap_alloc_new w.drew _)
   (by simp only [Array.size_append, List.size_toArray, size_zeroCells, hz, rowL_length, <- Nat.add_mul]; congr 1; omega) hge hcm' htl
   (fun j u hu => by
    have hlt := (List.getElem?_eq_some_iff.1 hu).1
    rw [List.length_append] at hlt
    have e : (rowL M b 0 (k * i.size)).toArray ++ (rowL M b2 base2 (m * i.size)).toArray = (rowL M b 0 (k * i.size) ++ rowL M b2 base2 (m * i.size)).toArray := by simp
    rw [Array.getElem?_append_left (by simpa using hlt), e]
    simpa using hu)
   (.inl (Nat.le_refl _)) (fun b' hb' _ => alloc_heap_old w.drew _ hb') (fun j v hv => by rw [hI.mem_new] at hv; cases hv)
  exact ⟨_, _, _, _, hrun, r1, r2, hend rfl rfl (by simp [bind1]) hge hcm' r1.mem⟩
theorem appE_ok {T : Nat -> Option TI} (hT : TT P T) : OpXOK P G (appE T) := by
 intro e g n op E h
 unfold appE at h
 split at h
 ·rename_i c
  split at h
  ·rename_i s x t t' hcal hargs hty
   cases htt : beqN t t' with
   | false => simp [htt] at h
   | true =>
     obtain rfl : t = t' := by simpa using htt
     simp only [htt, cond_true] at h
     have ha : c.args = #[s, x] := by rw [<- hargs]
     have hb : c.argTypes = #[t, t] := by rw [<- hty]
     have hops : (Op.call c).operands.toList = [s, x] := by simp [Op.operands, Call.operands, hcal, ha]
     split at h
     · rename_i el sz by' zr hTt
       have ht : P.underlying t = some (.slice el) := (hT t _ hTt).desc
       split at h
       · rename_i i hTe
         have hi := hT el i hTe
         split at h
         · rename_i tok2 esz2 len2 f2 hx
           cases hc : (beqN esz2 i.size && bltN 0 i.size && bltN 0 i.bytes) with
           | false => simp [hc] at h
           | true =>
             simp only [hc, cond_true] at h
             simp only [Bool.and_eq_true] at hc
             obtain ⟨⟨hc1, hc2⟩, hc3⟩ := hc
             have hc2 := blt_lt hc2
             have hc3 := blt_lt hc3
             obtain rfl : esz2 = i.size := by simpa using hc1
             split at h
             · rename_i hs
               simp only [Option.some.injEq] at h
               subst h
               refine ⟨by simp, fun y hy => .inr (by simp at hy; subst hy; simp), fun o M ρ w ev ho hev hI hfree hr hC hG => ?_⟩
               rw [hops] at hr
               have hrs := hr s (by simp)
               have hrx := hr x (by simp)
               rw [hs] at hrs
               rw [hx] at hrx
               have hes : ev s = .slice none 0 0 := by simpa [rel, one] using hrs
               obtain ⟨a2, m, cap2, ⟨_, hex⟩, hm, _, _, _, hrow⟩ := hrx
               have hex : ev x = .slice a2 m cap2 := by simpa using hex
               have hcond := hC (fun _ => 0 < len2 () /\ len2 () * i.bytes <= 140737488355328) (by simp)
               obtain ⟨q1, q2⟩ := hcond
               have hm0 : 0 < m := by omega
               obtain ⟨b2, base2, rfl, hrow2⟩ := hrow hm0
               have q3 : m * i.bytes <= 140737488355328 := by
                 have : ((m * i.bytes : Nat) : Int) <= 140737488355328 := by rw [Int.natCast_mul, hm]; exact q2
                 omega
               obtain ⟨v, w', M', ρ', r1, r2, r3, r4⟩ := app_nil (g := g) (F := []) (id0 := 0) ht hi (.inl rfl) hI (hfree n (Nat.le_refl _) (Nat.lt_succ_self _)) (by simp) hc2 o.type hrow2 hm0 q3 hc3
               unfold OpR
               rw [exec_append ho hcal ha hb (by rw [hes, hex]; exact r1)]
               exact ⟨M', ρ', r2, r3, r4 len2 f2 hm.symm fun j cs hj h => h⟩
             · rename_i id esz len f hs
               cases hq : beqN esz i.size with
               | false => simp [hq] at h
               | true =>
                 obtain rfl : esz = i.size := by simpa using hq
                 simp only [hq, cond_true] at h
                 split at h
                 · rename_i esz' el' hgid
                   cases hz : (beqN esz' i.size && beqN el' el && bltN id n) with
                   | false => simp [hz] at h
                   | true =>
                     simp only [hz, cond_true, Option.some.injEq] at h
                     subst h
                     simp only [Bool.and_eq_true] at hz
                     obtain ⟨⟨hz1, hz2⟩, hz3⟩ := hz
                     obtain rfl : esz' = i.size := by simpa using hz1
                     obtain rfl : el' = el := by simpa using hz2
                     have hz3 := blt_lt hz3
                     refine ⟨by simp, fun y hy => (by simp at hy; rcases hy with rfl | rfl <;> simp), fun o M ρ w ev ho hev hI hfree hr hC hG => ?_⟩
                     rw [hops] at hr
                     have hrs := hr s (by simp)
                     have hrx := hr x (by simp)
                     rw [hs] at hrs
                     rw [hx] at hrx
                     obtain ⟨a1, k, cap1, ⟨_, hes⟩, hk, _, _, htok, hrow1⟩ := hrs
                     have hes : ev s = .slice a1 k cap1 := by simpa using hes
                     have hid := htok id rfl
                     obtain ⟨a2, m, cap2, ⟨_, hex⟩, hm, _, _, _, hrow⟩ := hrx
                     have hex : ev x = .slice a2 m cap2 := by simpa using hex
                     obtain ⟨q1, q2⟩ := hC (fun _ => 0 < len2 () /\ (len () + len2 ()) * i.bytes <= 140737488355328) (by simp)
                     have hm0 : 0 < m := by omega
                     obtain ⟨b2, base2, rfl, hrow2⟩ := hrow hm0
                     have q3 : (k + m) * i.bytes <= 140737488355328 := by
                       have : (((k + m) * i.bytes : Nat) : Int) <= 140737488355328 := by rw [Int.natCast_mul, Int.natCast_add, hm, hk]; exact q2
                       omega
                     have hn := hfree n (Nat.le_refl _) (Nat.lt_succ_self _)
                     have hmrg1 : ∀ {M' : Mem} (j : Nat) (cs : List Value), j < k -> rel M' (f fun _ => (j : Int)) noNames .cells cs -> rel M' (PV.mrg (fun _ => decide ((j : Int) < len ())) (f fun _ => (j : Int)) (f2 fun _ => (j : Int) - len ())) noNames .cells cs := by
                       intro M' j cs hj h
                       exact mrg_tt (by simp only [decide_eq_true_eq]; omega) _ _ h
                     have hmrg2 : ∀ {M' : Mem} (j : Nat) (cs : List Value), j < m -> rel M' (f2 fun _ => (j : Int)) noNames .cells cs -> rel M' (PV.mrg (fun _ => decide (((k + j : Nat) : Int) < len ())) (f fun _ => ((k + j : Nat) : Int)) (f2 fun _ => ((k + j : Nat) : Int) - len ())) noNames .cells cs := by
                       intro M' j cs hj h
                       refine mrg_ff (by simp only [decide_eq_false_iff_not]; omega) _ _ ?_
                       exact rel_in_row (by show (j : Int) = ((k + j : Nat) : Int) - len (); omega) h
                     obtain ⟨v0, hv0, hok⟩ := hI.obj id (.own i.size el') (by simp [only, hgid])
                     rw [hid] at hv0
                     simp only [Option.some.injEq] at hv0
                     subst hv0
                     rcases hok with hnil | ⟨b, k', cap', c', e', _⟩
                     · simp only [Value.slice.injEq] at hnil
                       obtain ⟨rfl, rfl, rfl⟩ := hnil
                       obtain ⟨v, w', M', ρ', r1, r2, r3, r4⟩ := app_nil (g := g) (F := [id]) (id0 := id) ht hi (.inr rfl) hI hn (by simp; omega) hc2 o.type hrow2 hm0 (by simpa using q3) hc3
                       unfold OpR
                       rw [exec_append ho hcal ha hb (by rw [hes, hex]; exact r1)]
                       refine ⟨M', ρ', r2, r3, r4 _ _ (by show len () + len2 () = _; omega) fun j cs hj h => ?_⟩
                       have := hmrg2 j cs hj h
                       simpa using this
                     · simp only [Value.slice.injEq] at e'
                       obtain ⟨rfl, rfl, rfl⟩ := e'
                       have hrow1' : row M b 0 i.size k f := by
                         by_cases hk0 : 0 < k
                         · obtain ⟨b', base', e1, h1⟩ := hrow1 hk0
                           simp only [Option.some.injEq, Addr.mk.injEq, and_true] at e1
                           obtain ⟨rfl, rfl⟩ := e1
                           exact h1
                         · exact fun j hj => by omega
                       obtain ⟨v, w', M', ρ', r1, r2, r3, r4⟩ := app_own (g := g) ht hi hI hn (by simp; omega) hc2 o.type hgid hid hrow1' hrow2 hm0 q3 hc3
                       unfold OpR
                       rw [exec_append ho hcal ha hb (by rw [hes, hex]; exact r1)]
                       exact ⟨M', ρ', r2, r3, r4 _ _ (by show len () + len2 () = _; omega) hmrg1 hmrg2⟩
                 · cases h
             · cases h
         · cases h
       · cases h
     · cases h
  ·cases h
 ·cases h
end Go.Abs
namespace Go.Abs
variable {P : Program} {G : Gs}
abbrev Table := Nat -> PV -> Option (PV × List (Unit -> Prop))
def TableOK (P : Program) (G : Gs) (F : Table) : Prop := ∀ f args r C, F f args = some (r, C) -> (∀ c ∈ C, c ()) -> PFun P G f args r
def callX (F : Table) : OpX := fun e g n op => match op with
 | .call c => match c.callee with
   | .value fv => match e fv with
     | .func (.func f) first cap => bif ((first.app (argsE e c.args.toList)).app cap).pure then (match F f ((first.app (argsE e c.args.toList)).app cap).strip with
       | some (r, C) => some { v := r, n, C }
       | none => none) else none
     | _ => none
   | _ => none
 | _ => none
theorem callX_ok {F : Table} (hF : TableOK P G F) : OpXOK P G (callX F) := by
 intro e g n op E h
 unfold callX at h
 split at h
 ·rename_i c
  split at h
  ·rename_i fv hcal
   split at h
   ·rename_i f first cap hfv
    cases hp : ((first.app (argsE e c.args.toList)).app cap).pure with
    | false => simp [hp] at h
    | true =>
      simp only [hp, cond_true] at h
      split at h
      · rename_i r C hq
        simp only [Option.some.injEq] at h
        subst h
        exact call_ok hcal hfv hp (hF _ _ _ _ hq)
      · cases h
   ·cases h
  ·cases h
 ·cases h
def addF (f : Nat) (spec : PV -> Option (PV × List (Unit -> Prop))) (F : Table) : Table := fun g args => bif beqN g f then spec args else F g args
theorem addF_ok {f : Nat} {spec : PV -> Option (PV × List (Unit -> Prop))} {F : Table} (h : ∀ args r C, spec args = some (r, C) -> (∀ c ∈ C, c ()) -> PFun P G f args r) (hF : TableOK P G F) : TableOK P G (addF f spec F) := by
 intro g args r C hq hC
 unfold addF at hq
 cases hb : beqN g f with
 | true =>
   obtain rfl : g = f := by simpa using hb
   rw [hb] at hq
   exact h _ _ _ hq hC
 | false =>
   rw [hb] at hq
   exact hF _ _ _ _ hq hC
def orX (O O' : OpX) : OpX := fun e g n op => match O e g n op with
 | some E => some E
 | none => O' e g n op
theorem orX_ok {O O' : OpX} (h : OpXOK P G O) (h' : OpXOK P G O') : OpXOK P G (orX O O') := by
 intro e g n op E hE
 unfold orX at hE
 split at hE
 ·rename_i E1 h1
  simp only [Option.some.injEq] at hE
  subst hE
  exact h _ _ _ _ _ h1
 ·exact h' _ _ _ _ _ hE
section
variable {X : Ctx} {fn : Func} {Q : PV -> Store -> Prop} {k : List It} {A : Env} {S : Store} {n : Nat}
theorem inv_nil {M : Mem} {ρ : Names} {w : World} (hI : Inv M ρ S.get w) (hn : ρ n = none) (hS : S.get n = none) (esz el : Nat) (S2 : Store) (hS2 : ∀ id o, S2.get id = some o -> (id = n /\ o = .own esz el) \/ (id ≠ n /\ ∃ o', S.get id = some o' /\ o'.isG = o.isG /\ ∀ v, o'.ok M ρ w v -> o.ok M (bind1 ρ n (.slice none 0 0)) w v)) :
  Inv M (bind1 ρ n (.slice none 0 0)) S2.get w /\ ∀ b, occ (bind1 ρ n (.slice none 0 0)) S2.get b -> occ ρ S.get b := by
 have hat : ∀ id, id ≠ n -> ∀ o o' b, o'.isG = SObj.isG o -> (has (bind1 ρ n (.slice none 0 0)) id o b ↔ has ρ id o' b) := fun id h o o' b hG => by
  cases hb : o.isG with
  | false => rw [has_at hb, has_at (hG.trans hb)]; simp [at?, bind1, h]
  | true => cases o <;> first | (cases hb; done) | (cases o' <;> first | exact Iff.rfl | (simp [SObj.isG] at hG; done))
 have hatn : ∀ b, ¬ has (bind1 ρ n (.slice none 0 0)) n (.own esz el) b := fun b h => by simp [has, at?, bind1, nblk] at h
 have hoc : ∀ b, occ (bind1 ρ n (.slice none 0 0)) S2.get b -> occ ρ S.get b := by
  rintro b ⟨id, o, ho, hb⟩
  rcases hS2 id o ho with ⟨rfl, rfl⟩ | ⟨h1, o1, h2, h3, _⟩
  ·exact absurd hb (hatn b)
  ·rw [hat _ h1 o o1 b h3] at hb
   exact ⟨id, o1, h2, hb⟩
 refine ⟨⟨hI.mem, fun id o ho => ?_, fun id id' o o' ho ho' hne b hb hb' => ?_, fun id id' o o' ho ho' hg hg' => ?_, fun b o ho => ⟨(hI.stat b o ho).1, fun hc => (hI.stat b o ho).2 (hoc b hc)⟩⟩, hoc⟩
 ·rcases hS2 id o ho with ⟨rfl, rfl⟩ | ⟨hne, o', h1, _, h2⟩
  ·exact ⟨_, by simp [bind1], .inl rfl⟩
  ·obtain ⟨v, hv, hok⟩ := hI.obj id o' h1
   exact ⟨v, by simp [bind1, hne, hv], h2 v hok⟩
 ·rcases hS2 id o ho with ⟨rfl, rfl⟩ | ⟨h1, o1, h2, h3, _⟩
  ·exact hatn b hb
  ·rcases hS2 id' o' ho' with ⟨rfl, rfl⟩ | ⟨h1', o1', h2', h3', _⟩
   ·exact hatn b hb'
   ·rw [hat _ h1 o o1 b h3] at hb
    rw [hat _ h1' o' o1' b h3'] at hb'
    exact hI.apart id id' o1 o1' h2 h2' hne b hb hb'
 ·rcases hS2 id o ho with ⟨rfl, rfl⟩ | ⟨h1, o1, h2, h3, _⟩
  ·cases hg
  ·rcases hS2 id' o' ho' with ⟨rfl, rfl⟩ | ⟨h1', o1', h2', h3', _⟩
   ·cases hg'
   ·exact hI.one id id' o1 o1' h2 h2' (h3.trans hg) (h3'.trans hg')
theorem free_nil {ρ : Names} (hf : ∀ id, n <= id -> ρ id = none) : ∀ id, n + 1 <= id -> bind1 ρ n (.slice none 0 0) id = none := by
 intro id hid
 simp only [bind1]
 rw [if_neg (by omega)]
 exact hf id (by omega)
theorem run_own (t esz el : Nat) (z : PV) (hk : plainK k = true) (ht : A.get t = .nils) (hS : S.get n = none)
  (h : RunC P X fn Q ⟨k, (t, .slice (some n) esz (fun _ => 0) fun _ => z) :: A, (n, .own esz el) :: S, n + 1⟩) : RunC P X fn Q ⟨k, A, S, n⟩ := by
 refine (run_plain hk).2 (mach_else ((run_plain hk).1 h) fun M ρ w a ds hG hI hf hm hR => ?_)
 have hn := hf n (Nat.le_refl _)
 have hle := le_bind1 hn (.slice none 0 0)
 obtain ⟨k1, k2⟩ := inv_nil hI hn hS esz el ((n, .own esz el) :: S) (fun id o ho => by
  rw [Store.get] at ho
  cases hb : beqN n id with
  | true =>
    obtain rfl : n = id := by simpa using hb
    simp only [hb, cond_true, Option.some.injEq] at ho
    exact .inl ⟨rfl, ho.symm⟩
  | false =>
    simp only [hb, cond_false] at ho
    refine .inr ⟨fun e => by subst e; simp at hb, o, ho, rfl, fun v hv => SObj.ok_keep hv (Mem.le_refl _) hle (fun _ => rfl) fun b _ => ⟨rfl, fun i h => h⟩⟩)
 have hR2 : RelA M (bind1 ρ n (.slice none 0 0)) X.N ds (Env.get ((t, .slice (some n) esz (fun _ => 0) fun _ => z) :: A)) a := by
  refine ⟨fun s => ?_, hR.size, hR.defers⟩
  simp only [Env.get]
  cases hb : beqN t s with
  | true =>
    obtain rfl : t = s := by simpa using hb
    have := hR.slot t
    rw [ht] at this
    refine ⟨none, 0, 0, this, rfl, Nat.le_refl _, Nat.zero_le _, fun id hid => ?_, fun h => by omega⟩
    simp only [Option.some.injEq] at hid
    subst hid; simp [bind1]
  | false => exact rel_mono (Mem.le_refl _) _ hle (hR.slot s)
 exact ⟨M, _, Mem.le_refl _, k1, free_nil hf, Nat.le_succ_of_le hm, hR2, fun id hid => by (have h0 : X.n0 <= n := hm); simp [bind1]; omega, k2, fun b i h1 h2 => absurd h2 h1, rfl⟩
end
def PV.frz (id : Nat) (pv : PV) : PV -> PV
 | .ptr i off => bif beqN i id then .eptr pv.size (fun _ => 1) (fun _ => pv) (fun _ => 0) off else .ptr i off
 | .ptri i off j => bif beqN i id then .eptri pv.size (fun _ => 1) (fun _ => pv) (fun _ => 0) off j else .ptri i off j
 | .func fn a b => .func fn (PV.frz id pv a) (PV.frz id pv b)
 | .iface t x => .iface t (PV.frz id pv x)
 | .agg l => .agg (PV.frz id pv l)
 | .tuple l => .tuple (PV.frz id pv l)
 | .cons x r => .cons (PV.frz id pv x) (PV.frz id pv r)
 | p => p
def frzA (id : Nat) (pv : PV) : Env -> Env
 | [] => []
 | (t, v) :: r => (t, PV.frz id pv v) :: frzA id pv r
def frzS (id : Nat) (pv : PV) : Store -> Store
 | [] => []
 | (i, .var v) :: r => bif beqN i id then frzS id pv r else (i, .var (PV.frz id pv v)) :: frzS id pv r
 | (i, o) :: r => bif beqN i id then frzS id pv r else (i, o) :: frzS id pv r
theorem rel_frz {M : Mem} {id b : Nat} {pv : PV} {c : List Value} (hrow : ∀ i, M b i = c[i]?) (hc : rel M pv noNames .cells c) : ∀ (p : PV) {ρ : Names} {m : Mode} {vs : List Value}, ρ id = some (.pointer (some ⟨b, 0, none⟩)) -> rel M p ρ m vs -> rel M (PV.frz id pv p) ρ m vs := by
 have hsz : c.length = pv.size := (rel_size _ hc)
 have hr : ∀ j : Nat, j < 1 -> ∃ cs, cs.length = pv.size /\ rel M pv noNames .cells cs /\ ∀ q, q < pv.size -> M b (0 + j * pv.size + q) = cs[q]? := by
  intro j hj
  obtain rfl : j = 0 := by omega
  exact ⟨c, hsz, hc, fun q _ => by simpa using hrow q⟩
 intro p
 induction p with
 | ptr i off =>
   intro ρ m vs hid ⟨b', h1, h2⟩
   simp only [PV.frz]
   cases hb : beqN i id with
   | false => exact ⟨b', h1, h2⟩
   | true =>
     obtain rfl : i = id := by simpa using hb
     rw [hid] at h1
     simp only [Option.some.injEq, Value.pointer.injEq, Addr.mk.injEq, and_true] at h1
     subst h1
     refine ⟨b, 0, 1, by simp, by simp, by simp, hr, ?_⟩
     simpa using h2
 | ptri i off idx =>
   intro ρ m vs hid ⟨b', h1, h0, h2⟩
   simp only [PV.frz]
   cases hb : beqN i id with
   | false => exact ⟨b', h1, h0, h2⟩
   | true =>
     obtain rfl : i = id := by simpa using hb
     rw [hid] at h1
     simp only [Option.some.injEq, Value.pointer.injEq, Addr.mk.injEq, and_true] at h1
     subst h1
     refine ⟨b, 0, 1, by simp, by simp, by simp, h0, hr, ?_⟩
     simpa using h2
 | func fn first captured ih1 ih2 => intro ρ m vs hid ⟨fs, cs, h1, h2, h3⟩; exact ⟨fs, cs, h1, ih1 hid h2, ih2 hid h3⟩
 | iface t x ih => intro ρ m vs hid ⟨v, h1, h2⟩; exact ⟨v, h1, ih hid h2⟩
 | agg l ih =>
   intro ρ m vs hid hx
   rcases hx with ⟨h1, h2⟩ | ⟨h1, cs, h2, h3⟩
   · exact .inl ⟨h1, ih hid h2⟩
   · exact .inr ⟨h1, cs, h2, ih hid h3⟩
 | tuple l ih => intro ρ m vs hid ⟨h1, ws, h2, h3⟩; exact ⟨h1, ws, h2, ih hid h3⟩
 | cons x r ih1 ih2 =>
   intro ρ m vs hid hx
   rcases hx with ⟨h1, c, d, h2, h3, h4⟩ | ⟨h1, v, ws, h2, h3, h4⟩
   · exact .inl ⟨h1, c, d, h2, ih1 hid h3, ih2 hid h4⟩
   · exact .inr ⟨h1, v, ws, h2, ih1 hid h3, ih2 hid h4⟩
 | _ => intro ρ m vs hid h; exact h
theorem frzA_get {id : Nat} {pv : PV} : ∀ (A : Env) (t : Nat), (frzA id pv A).get t = PV.frz id pv (A.get t)
 | [], t => rfl
 | (d, v) :: r, t => by
   simp only [frzA, Env.get]
   cases beqN d t with
   | true => rfl
   | false => exact frzA_get r t
theorem frzS_get {id : Nat} {pv : PV} : ∀ (S : Store) (i : Nat) (o : SObj), (frzS id pv S).get i = some o -> i ≠ id /\ ∃ o', S.get i = some o' /\ (o = o' \/ ∃ v, o' = .var v /\ o = .var (PV.frz id pv v))
 | [], i, o, h => by simp [frzS, Store.get] at h
 | (j, x) :: r, i, o, h => by
   have ih := frzS_get (id := id) (pv := pv) r i o
   have key : ∀ y, (y = x \/ ∃ v, x = .var v /\ y = .var (PV.frz id pv v)) -> (bif beqN j id then frzS id pv r else (j, y) :: frzS id pv r).get i = some o -> i ≠ id /\ ∃ o', Store.get ((j, x) :: r) i = some o' /\ (o = o' \/ ∃ v, o' = .var v /\ o = .var (PV.frz id pv v)) := by
     intro y hy h
     cases hb : beqN j id with
     | true =>
       rw [hb, cond_true] at h
       obtain ⟨h1, o', h2, h3⟩ := ih h
       obtain rfl : j = id := by simpa using hb
       refine ⟨h1, o', ?_, h3⟩
       rw [Store.get, nbeq h1]; exact h2
     | false =>
       rw [hb, cond_false, Store.get] at h
       have hne : j ≠ id := by intro e; subst e; simp at hb
       cases hj : beqN j i with
       | true =>
         obtain rfl : j = i := by simpa using hj
         simp only [hj, cond_true, Option.some.injEq] at h
         subst h
         exact ⟨hne, x, by simp [Store.get], hy⟩
       | false =>
         simp only [hj, cond_false] at h
         obtain ⟨h1, o', h2, h3⟩ := ih h
         exact ⟨h1, o', by rw [Store.get, hj]; exact h2, h3⟩
   cases x with
   | var v => exact key (.var (PV.frz id pv v)) (.inr ⟨v, rfl, rfl⟩) h
   | map k e l => exact key _ (.inl rfl) h
   | ghost Y s i => exact key _ (.inl rfl) h
   | own e t => exact key _ (.inl rfl) h
   | raw e => exact key _ (.inl rfl) h
theorem inv_freeze {M : Mem} {ρ : Names} {S : Store} {w : World} (hI : Inv M ρ S.get w) (id : Nat) (pv : PV) (ho : S.get id = some (.var pv)) (hp : pv.pure = true) :
  ∃ M2, M.le M2 /\ Inv M2 ρ (frzS id pv.strip S).get w /\ (∀ {p : PV} {m : Mode} {vs : List Value}, rel M p ρ m vs -> rel M2 (PV.frz id pv.strip p) ρ m vs) /\ (∀ b, occ ρ (frzS id pv.strip S).get b -> occ ρ S.get b) /\
    (∀ b i, M2 b i ≠ none -> M b i = none -> occ ρ S.get b) /\ M2.stat = M.stat := by
 obtain ⟨v, hv, b0, c, t, rfl, hheap, hrel, hMb⟩ := hI.obj id (.var pv) ho
 have hle : M.le (withRow M b0 c.toList) := by
  refine ⟨fun b i v hv => ?_, fun _ _ h => h⟩
  change (if b = b0 then c.toList[i]? else M b i) = some v
  split
  ·rename_i e; rw [e, hMb] at hv; cases hv
  ·exact hv
 have hrow : ∀ i, withRow M b0 c.toList b0 i = c.toList[i]? := fun i => by simp [withRow]
 have hrc : rel (withRow M b0 c.toList) pv.strip noNames .cells c.toList := rel_mono hle _ (Names.le_refl _) (strip_rel _ hp hrel)
 have hfz : ∀ {p : PV} {m : Mode} {vs : List Value}, rel M p ρ m vs -> rel (withRow M b0 c.toList) (PV.frz id pv.strip p) ρ m vs := fun h => rel_frz hrow hrc _ hv (rel_mono hle _ (Names.le_refl _) h)
 have hat : at? ρ id = some b0 := by simp [at?, hv, nblk]
 have hhas : ∀ {i : Nat} {o o' : SObj}, (o = o' \/ ∃ v, o' = .var v /\ o = .var (PV.frz id pv.strip v)) -> ∀ b, has ρ i o b ↔ has ρ i o' b := by
  rintro i o o' (rfl | ⟨v, rfl, rfl⟩) b <;> exact Iff.rfl
 have hisG : ∀ {o o' : SObj}, (o = o' \/ ∃ v, o' = .var v /\ o = .var (PV.frz id pv.strip v)) -> o'.isG = o.isG := by
  rintro o o' (rfl | ⟨v, rfl, rfl⟩) <;> rfl
 have hocc : ∀ b, occ ρ (frzS id pv.strip S).get b -> occ ρ S.get b := by
  rintro b ⟨i, o, h1, h2⟩
  obtain ⟨_, o', h3, h4⟩ := frzS_get S i o h1
  exact ⟨i, o', h3, (hhas h4 b).1 h2⟩
 have hI2 : Inv (withRow M b0 c.toList) ρ (frzS id pv.strip S).get w := by
  refine ⟨fun b i v hm => ?_, fun i o hi => ?_, fun i i' o o' hi hi' hne b hb hb' => ?_, fun i i' o o' hi hi' hg hg' => ?_, fun b o ho => ⟨(hI.stat b o ho).1, fun hc => (hI.stat b o ho).2 (hocc b hc)⟩⟩
  ·change (if b = b0 then c.toList[i]? else M b i) = some v at hm
   split at hm
   ·rename_i e
    rw [e, cells_of_block hheap]; simpa using hm
   ·exact hI.mem b i v hm
  ·obtain ⟨hne, o', h1, h2⟩ := frzS_get S i o hi
   obtain ⟨v, hv', hok⟩ := hI.obj i o' h1
   refine ⟨v, hv', ?_⟩
   have hnb : ∀ b, hasV ρ v o' b -> b ≠ b0 := fun b hb e => hI.apart i id o' _ h1 ho hne b ((has_V hv' o' b).2 hb) (e ▸ hat)
   have hkeep := SObj.ok_keep (M' := withRow M b0 c.toList) (ρ' := ρ) (w' := w) hok hle (Names.le_refl _) (fun _ => rfl) fun b hb => ⟨rfl, fun i h => by (change (if b = b0 then c.toList[i]? else M b i) ≠ none at h); rw [if_neg (hnb b hb)] at h; exact h⟩
   rcases h2 with rfl | ⟨v0, rfl, rfl⟩
   ·exact hkeep
   ·obtain ⟨b', c', t', e1, e2, e3, e4⟩ := hkeep
    exact ⟨b', c', t', e1, e2, rel_frz hrow hrc _ hv e3, e4⟩
  ·obtain ⟨_, x, h1, h2⟩ := frzS_get S i o hi
   obtain ⟨_, x', h1', h2'⟩ := frzS_get S i' o' hi'
   exact hI.apart i i' x x' h1 h1' hne b ((hhas h2 b).1 hb) ((hhas h2' b).1 hb')
  ·obtain ⟨_, x, h1, h2⟩ := frzS_get S i o hi
   obtain ⟨_, x', h1', h2'⟩ := frzS_get S i' o' hi'
   exact hI.one i i' x x' h1 h1' ((hisG h2).trans hg) ((hisG h2').trans hg')
 refine ⟨_, hle, hI2, hfz, hocc, fun b i g1 g2 => ?_, rfl⟩
 by_cases hb : b = b0
 ·subst hb
  exact ⟨id, _, ho, hat⟩
 ·change (if b = b0 then c.toList[i]? else M b i) ≠ none at g1
  rw [if_neg hb] at g1; exact absurd g2 g1
theorem run_freeze {X : Ctx} {fn : Func} {Q : PV -> Store -> Prop} {k : List It} {A : Env} {S : Store} {n : Nat} (id : Nat) (pv : PV) (hk : plainK k = true) (ho : S.get id = some (.var pv)) (hp : pv.pure = true)
  (h : RunC P X fn Q ⟨k, frzA id pv.strip A, frzS id pv.strip S, n⟩) : RunC P X fn Q ⟨k, A, S, n⟩ := by
 refine (run_plain hk).2 (mach_else ((run_plain hk).1 h) fun M ρ w a ds hG hI hf hm hR => ?_)
 obtain ⟨M2, h1, h2, h3, h4, h5, h6⟩ := inv_freeze hI id pv ho hp
 exact ⟨M2, ρ, h1, h2, hf, hm, ⟨fun t => by rw [frzA_get]; exact h3 (hR.slot t), hR.size, hR.defers⟩, fun _ _ => rfl, h4, h5, h6⟩
def uniq : Store -> Bool
 | [] => true
 | (id, _) :: r => r.all (fun x => !beqN x.1 id) && uniq r
theorem uniq_get : ∀ {S : Store}, uniq S = true -> ∀ {id : Nat} {o : SObj}, (id, o) ∈ S -> S.get id = some o
 | [], _, _, _, h => by cases h
 | (i, x) :: r, hu, id, o, h => by
   simp only [uniq, Bool.and_eq_true] at hu
   rcases List.mem_cons.1 h with e | h
   · cases e; simp [Store.get]
   · have := List.all_eq_true.1 hu.1 _ h
     rw [Store.get, nbeq (fun e => by simp [e] at this)]
     exact uniq_get hu.2 h
theorem FnOK.callable {X : Ctx} {f : Nat} {fn : Func} {c : Code} (h : FnOK P X f fn c) : Callable P f := ⟨fn, h.func, h.name, by rw [h.body]; rfl⟩
end Go.Abs
namespace Go.Abs
variable {P : Program} {G : Gs}
def rdL {α : Type} (r : PV -> α) (len : Unit -> Int) (f : (Unit -> Int) -> PV) : List α := (List.range (len ()).toNat).map fun (i : Nat) => r (f fun _ => (i : Int))
theorem rdL_len {α : Type} (r : PV -> α) (len : Unit -> Int) (f : (Unit -> Int) -> PV) : (rdL r len f).length = (len ()).toNat := by simp [rdL]
theorem rdL_get {α : Type} (r : PV -> α) (len : Unit -> Int) (f : (Unit -> Int) -> PV) (d : α) {j : Nat} (h : j < (len ()).toNat) : (rdL r len f).getD j d = r (f fun _ => (j : Int)) := by
 rw [List.getD_eq_getElem?_getD]
 simp only [rdL, List.getElem?_map, List.getElem?_range h, Option.map_some, Option.getD_some]
def Sh.rd : (a : Sh) -> PV -> a.val
 | .int _, .int _ n => n ()
 | .bool, .tt => true
 | .bool, .bool b => b ()
 | .str, .str s => s ()
 | .arrI _ _, .arrI _ _ l => l ()
 | .arrB _, .arrB _ l => l ()
 | .arrS _, .arrS _ l => l ()
 | .cons a b, .cons x y => (a.rd x, b.rd y)
 | .agg a, .agg x => a.rd x
 | .slice _ a, .slice _ _ len f => rdL a.rd len f
 | .eptr _ a, .eptr _ _ g i _ => a.rd (g i)
 | .fnv _ a, .func _ _ c => a.rd c
 | a, _ => a.dflt
def Sh.fits : Sh -> PV -> Prop
 | .int k, .int k' _ => k' = k
 | .bool, .tt => True
 | .bool, .ff => True
 | .bool, .bool _ => True
 | .str, .str _ => True
 | .arrI k n, .arrI k' n' _ => k' = k /\ n' = n
 | .arrB n, .arrB n' _ => n' = n
 | .arrS n, .arrS n' _ => n' = n
 | .nil, .nil => True
 | .cons a b, .cons x y => a.fits x /\ b.fits y
 | .agg a, .agg x => a.fits x
 | .slice esz a, .slice _ esz' _ f => esz' = esz /\ ∀ j, a.fits (f j)
 | .slice _ _, .nils => True
 | .fn f, .func (.func f') .nil .nil => f' = f
 | .eptr esz a, .eptr esz' _ g i off => esz' = esz /\ off = 0 /\ a.fits (g i)
 | .fnv f a, .func (.func f') .nil c => f' = f /\ a.fits c
 | _, _ => False
def Sh.mk : (a : Sh) -> (Unit -> a.val) -> PV
 | .int k, t => .int k t
 | .bool, t => .bool t
 | .str, t => .str t
 | .arrI k n, t => .arrI k n t
 | .arrB n, t => .arrB n t
 | .arrS n, t => .arrS n t
 | .nil, _ => .nil
 | .cons a b, t => .cons (a.mk fun _ => (t ()).1) (b.mk fun _ => (t ()).2)
 | .agg a, t => .agg (a.mk t)
 | .slice esz a, t => .slice none esz (fun _ => (List.length (α := a.val) (t ()) : Int)) fun j => a.mk fun _ => List.getD (α := a.val) (t ()) (j ()).toNat a.dflt
 | .fn f, _ => .func (.func f) .nil .nil
 | .eptr esz a, t => .eptr esz (fun _ => 1) (fun _ => a.mk t) (fun _ => 0) 0
 | .fnv f a, t => .func (.func f) .nil (a.mk t)
def Sh.mkL (esz : Nat) (a : Sh) (t : Unit -> List a.val) : PV := .slice none esz (fun _ => ((t ()).length : Int)) fun j => a.mk fun _ => (t ()).getD (j ()).toNat a.dflt
theorem eptr_one {M : Mem} {ρ : Names} {m : Mode} {vs : List Value} {esz : Nat} {len : Unit -> Int} {g : (Unit -> Int) -> PV} {i : Unit -> Int} {q : PV} (hq : ∀ cs, rel M (g i) noNames .cells cs -> rel M q noNames .cells cs)
  (h : rel M (.eptr esz len g i 0) ρ m vs) : rel M (.eptr esz (fun _ => 1) (fun _ => q) (fun _ => 0) 0) ρ m vs := by
 obtain ⟨b, base, n, h1, h2, h3, hrow, h4⟩ := h
 refine ⟨b, base + (i ()).toNat * esz, 1, rfl, Int.le_refl _, by decide, fun j hj => ?_, by simpa using h4⟩
 obtain rfl : j = 0 := by omega
 obtain ⟨cs, c1, c2, c3⟩ := hrow (i ()).toNat (by omega)
 refine ⟨cs, c1, hq cs ?_, fun q hq => by simpa using c3 q hq⟩
 have e : (fun _ : Unit => (((i ()).toNat : Nat) : Int)) = i := by funext u; exact Int.toNat_of_nonneg h2
 rwa [e] at c2
theorem Sh.fits_mk {M : Mem} : ∀ (a : Sh) {p : PV} {ρ : Names} {m : Mode} {vs : List Value}, a.fits p -> rel M p ρ m vs -> rel M (a.mk fun _ => a.rd p) ρ m vs := by
 intro a
 induction a with
 | int k => intro p ρ m vs h hr; cases p <;> simp only [Sh.fits] at h; subst h; exact hr
 | bool => intro p ρ m vs h hr; cases p <;> simp only [Sh.fits] at h <;> exact hr
 | str => intro p ρ m vs h hr; cases p <;> simp only [Sh.fits] at h; exact hr
 | arrI k n => intro p ρ m vs h hr; cases p <;> simp only [Sh.fits] at h; obtain ⟨rfl, rfl⟩ := h; exact hr
 | arrB n => intro p ρ m vs h hr; cases p <;> simp only [Sh.fits] at h; subst h; exact hr
 | arrS n => intro p ρ m vs h hr; cases p <;> simp only [Sh.fits] at h; subst h; exact hr
 | nil => intro p ρ m vs h hr; cases p <;> simp only [Sh.fits] at h; exact hr
 | cons a b iha ihb =>
   intro p ρ m vs h hr
   cases p <;> simp only [Sh.fits] at h
   rcases hr with ⟨h1, c, d, h2, h3, h4⟩ | ⟨h1, v, ws, h2, h3, h4⟩
   · exact .inl ⟨h1, c, d, h2, iha h.1 h3, ihb h.2 h4⟩
   · exact .inr ⟨h1, v, ws, h2, iha h.1 h3, ihb h.2 h4⟩
 | agg a ih =>
   intro p ρ m vs h hr
   cases p <;> simp only [Sh.fits] at h
   rcases hr with ⟨h1, h2⟩ | ⟨h1, cs, h2, h3⟩
   · exact .inl ⟨h1, ih h h2⟩
   · exact .inr ⟨h1, cs, h2, ih h h3⟩
 | slice esz a ih =>
   intro p ρ m vs h hr
   cases p <;> simp only [Sh.fits] at h
   case slice tok esz' len f =>
     obtain ⟨rfl, h⟩ := h
     obtain ⟨ad, n, cap, h1, h2, h3, h4, h5, h6⟩ := hr
     refine ⟨ad, n, cap, h1, ?_, h3, h4, fun id hid => (by cases hid), fun hn => ?_⟩
     · show (n : Int) = ((rdL a.rd len f).length : Int)
       rw [rdL_len]; omega
     · obtain ⟨b, base, e, hrow⟩ := h6 hn
       refine ⟨b, base, e, fun j hj => ?_⟩
       obtain ⟨cs, k1, k2, k3⟩ := hrow j hj
       refine ⟨cs, k1, ?_, k3⟩
       have := ih (h _) k2
       have e : (rdL a.rd len f).getD j a.dflt = a.rd (f fun _ => (j : Int)) := rdL_get _ _ _ _ (by omega)
       rw [<- e] at this
       exact this
   case nils =>
     exact ⟨none, 0, 0, hr, rfl, Nat.le_refl _, Nat.zero_le _, fun id hid => (by cases hid), fun hn => (by omega)⟩
 | fn f =>
   intro p ρ m vs h hr
   cases p <;> try (simp only [Sh.fits] at h; done)
   rename_i g x y
   cases g <;> cases x <;> cases y <;> try (simp only [Sh.fits] at h; done)
   simp only [Sh.fits] at h
   subst h
   exact hr
 | eptr esz a ih =>
   intro p ρ m vs h hr
   cases p <;> try (simp only [Sh.fits] at h; done)
   rename_i esz' len g i off
   obtain ⟨rfl, rfl, h⟩ := h
   exact eptr_one (fun cs hc => ih h hc) hr
 | fnv f a ih =>
   intro p ρ m vs h hr
   cases p <;> try (simp only [Sh.fits] at h; done)
   rename_i g x y
   cases g <;> cases x <;> try (simp only [Sh.fits] at h; done)
   obtain ⟨rfl, h⟩ := h
   obtain ⟨fs, cs, k1, k2, k3⟩ := hr
   exact ⟨fs, cs, k1, k2, ih h k3⟩
def Sh.Fn : Sh -> Type -> Type
 | .int _, R => (Unit -> Int) -> R
 | .bool, R => (Unit -> Bool) -> R
 | .str, R => (Unit -> ByteArray) -> R
 | .arrI _ _, R => (Unit -> List Int) -> R
 | .arrB _, R => (Unit -> List Bool) -> R
 | .arrS _, R => (Unit -> List ByteArray) -> R
 | .nil, R => R
 | .cons a b, R => a.Fn (b.Fn R)
 | .agg a, R => a.Fn R
 | .slice _ a, R => (Unit -> List a.val) -> R
 | .fn _, R => R
 | .eptr _ a, R => a.Fn R
 | .fnv _ a, R => a.Fn R
def Sh.app : {R : Type} -> (a : Sh) -> a.Fn R -> PV -> Option (R × List (Unit -> Prop))
 | _, .int k, f, .int k' n => bif decide (k = k') then some (f n, []) else none
 | _, .bool, f, .tt => some (f fun _ => true, [])
 | _, .bool, f, .ff => some (f fun _ => false, [])
 | _, .bool, f, .bool b => some (f b, [])
 | _, .str, f, .str s => some (f s, [])
 | _, .arrI k n, f, .arrI k' n' l => bif decide (k = k') && beqN n n' then some (f l, []) else none
 | _, .arrB n, f, .arrB n' l => bif beqN n n' then some (f l, []) else none
 | _, .arrS n, f, .arrS n' l => bif beqN n n' then some (f l, []) else none
 | _, .nil, f, .nil => some (f, [])
 | _, .cons a b, f, .cons x y => match a.app f x with
   | some (g, C) => match b.app g y with
     | some (q, C') => some (q, C ++ C')
     | none => none
   | none => none
 | _, .agg a, f, .agg x => a.app f x
 | _, .slice esz a, f, .slice _ esz' len g => bif beqN esz esz' then some (f (fun _ => rdL a.rd len g), [fun _ => ∀ j, a.fits (g j)]) else none
 | _, .slice _ _, f, .nils => some (f fun _ => [], [])
 | _, .fn g, f, .func (.func g') .nil .nil => bif beqN g g' then some (f, []) else none
 | _, .eptr esz a, f, .eptr esz' _ g i off => bif beqN esz esz' && beqN off 0 then a.app f (g i) else none
 | _, .fnv g a, f, .func (.func g') .nil c => bif beqN g g' then a.app f c else none
 | _, _, _, _ => none
def Sh.All : {R : Type} -> (a : Sh) -> a.Fn R -> (PV -> R -> Prop) -> Prop
 | _, .int k, f, Φ => ∀ n : Unit -> Int, Φ (.int k n) (f n)
 | _, .bool, f, Φ => ∀ b : Unit -> Bool, Φ (.bool b) (f b)
 | _, .str, f, Φ => ∀ s : Unit -> ByteArray, Φ (.str s) (f s)
 | _, .arrI k n, f, Φ => ∀ l : Unit -> List Int, (l ()).length = n -> Φ (.arrI k n l) (f l)
 | _, .arrB n, f, Φ => ∀ l : Unit -> List Bool, (l ()).length = n -> Φ (.arrB n l) (f l)
 | _, .arrS n, f, Φ => ∀ l : Unit -> List ByteArray, (l ()).length = n -> Φ (.arrS n l) (f l)
 | _, .nil, f, Φ => Φ .nil f
 | _, .cons a b, f, Φ => a.All f fun x g => b.All g fun y q => Φ (.cons x y) q
 | _, .agg a, f, Φ => a.All f fun x q => Φ (.agg x) q
 | _, .slice esz a, f, Φ => ∀ l : Unit -> List a.val, Φ (Sh.mkL esz a l) (f l)
 | _, .fn g, f, Φ => Φ (.func (.func g) .nil .nil) f
 | _, .eptr esz a, f, Φ => a.All f fun x q => Φ (.eptr esz (fun _ => 1) (fun _ => x) (fun _ => 0) 0) q
 | _, .fnv g a, f, Φ => a.All f fun x q => Φ (.func (.func g) .nil x) q
theorem Sh.app_ok {M : Mem} : ∀ (a : Sh) {R : Type} {f : a.Fn R} {Φ : PV -> R -> Prop} {p : PV} {q : R} {C : List (Unit -> Prop)} {ρ : Names} {m : Mode} {vs : List Value},
  a.app f p = some (q, C) -> a.All f Φ -> (∀ c ∈ C, c ()) -> rel M p ρ m vs -> ∃ p', rel M p' ρ m vs /\ Φ p' q := by
 intro a
 induction a with
 | int k =>
   intro R f Φ p q C ρ m vs h hA hC hr
   cases p <;> simp only [Sh.app, reduceCtorEq] at h
   rename_i k' n
   by_cases e : k = k'
   · subst e
     simp only [decide_true, cond_true, Option.some.injEq, Prod.mk.injEq] at h
     obtain ⟨rfl, rfl⟩ := h
     exact ⟨_, hr, hA n⟩
   · simp [e] at h
 | bool =>
   intro R f Φ p q C ρ m vs h hA hC hr
   cases p <;> simp only [Sh.app, reduceCtorEq, Option.some.injEq, Prod.mk.injEq] at h <;> obtain ⟨rfl, rfl⟩ := h
   · exact ⟨_, (show rel M (.bool fun _ => true) ρ m vs from hr), hA _⟩
   · exact ⟨_, (show rel M (.bool fun _ => false) ρ m vs from hr), hA _⟩
   · exact ⟨_, hr, hA _⟩
 | str =>
   intro R f Φ p q C ρ m vs h hA hC hr
   cases p <;> simp only [Sh.app, reduceCtorEq, Option.some.injEq, Prod.mk.injEq] at h
   obtain ⟨rfl, rfl⟩ := h
   exact ⟨_, hr, hA _⟩
 | arrI k n =>
   intro R f Φ p q C ρ m vs h hA hC hr
   cases p <;> simp only [Sh.app, reduceCtorEq] at h
   rename_i k' n' l
   by_cases e : k = k' /\ n = n'
   · obtain ⟨rfl, rfl⟩ := e
     simp only [decide_true, Bool.true_and, beq_self_eq_true, cond_true, Option.some.injEq, Prod.mk.injEq] at h
     obtain ⟨rfl, rfl⟩ := h
     exact ⟨_, hr, hA l hr.1⟩
   · have : (decide (k = k') && beqN n n') = false := by
       rw [Bool.eq_false_iff]; intro hc; simp only [Bool.and_eq_true, decide_eq_true_eq, beq_iff_eq] at hc; exact e hc
     rw [this] at h; cases h
 | arrB n =>
   intro R f Φ p q C ρ m vs h hA hC hr
   cases p <;> simp only [Sh.app, reduceCtorEq] at h
   rename_i n' l
   by_cases e : n = n'
   · subst e
     simp only [beq_self_eq_true, cond_true, Option.some.injEq, Prod.mk.injEq] at h
     obtain ⟨rfl, rfl⟩ := h
     exact ⟨_, hr, hA l hr.1⟩
   · rw [nbeq (fun h => e h.symm)] at h; cases h
 | arrS n =>
   intro R f Φ p q C ρ m vs h hA hC hr
   cases p <;> simp only [Sh.app, reduceCtorEq] at h
   rename_i n' l
   by_cases e : n = n'
   · subst e
     simp only [beq_self_eq_true, cond_true, Option.some.injEq, Prod.mk.injEq] at h
     obtain ⟨rfl, rfl⟩ := h
     exact ⟨_, hr, hA l hr.1⟩
   · rw [nbeq (fun h => e h.symm)] at h; cases h
 | nil =>
   intro R f Φ p q C ρ m vs h hA hC hr
   cases p <;> simp only [Sh.app, reduceCtorEq, Option.some.injEq, Prod.mk.injEq] at h
   obtain ⟨rfl, rfl⟩ := h
   exact ⟨_, hr, hA⟩
 | cons a b iha ihb =>
   intro R f Φ p q C ρ m vs h hA hC hr
   cases p <;> simp only [Sh.app, reduceCtorEq] at h
   rename_i x y
   cases h1 : a.app f x with
   | none => rw [h1] at h; cases h
   | some g =>
     obtain ⟨g, C1⟩ := g
     rw [h1] at h
     simp only at h
     cases h2 : b.app g y with
     | none => rw [h2] at h; cases h
     | some q' =>
       obtain ⟨q', C2⟩ := q'
       rw [h2] at h
       simp only [Option.some.injEq, Prod.mk.injEq] at h
       obtain ⟨rfl, rfl⟩ := h
       rcases hr with ⟨e, c, d, k2, k3, k4⟩ | ⟨e, v, ws, k2, k3, k4⟩
       · obtain ⟨x', l1, l2⟩ := iha h1 hA (fun c hc => hC c (List.mem_append_left _ hc)) k3
         obtain ⟨y', l3, l4⟩ := ihb h2 l2 (fun c hc => hC c (List.mem_append_right _ hc)) k4
         exact ⟨.cons x' y', Or.inl ⟨e, c, d, k2, l1, l3⟩, l4⟩
       · obtain ⟨x', l1, l2⟩ := iha h1 hA (fun c hc => hC c (List.mem_append_left _ hc)) k3
         obtain ⟨y', l3, l4⟩ := ihb h2 l2 (fun c hc => hC c (List.mem_append_right _ hc)) k4
         exact ⟨.cons x' y', Or.inr ⟨e, v, ws, k2, l1, l3⟩, l4⟩
 | agg a ih =>
   intro R f Φ p q C ρ m vs h hA hC hr
   cases p <;> simp only [Sh.app, reduceCtorEq] at h
   rcases hr with ⟨e, h2⟩ | ⟨e, cs, h2, h3⟩
   · obtain ⟨x', l1, l2⟩ := ih h hA hC h2
     exact ⟨.agg x', Or.inl ⟨e, l1⟩, l2⟩
   · obtain ⟨x', l1, l2⟩ := ih h hA hC h3
     exact ⟨.agg x', Or.inr ⟨e, cs, h2, l1⟩, l2⟩
 | slice esz a ih =>
   intro R f Φ p q C ρ m vs h hA hC hr
   cases p <;> simp only [Sh.app, reduceCtorEq] at h
   case slice tok esz' len g =>
     by_cases e : esz = esz'
     · subst e
       simp only [beq_self_eq_true, cond_true, Option.some.injEq, Prod.mk.injEq] at h
       obtain ⟨rfl, rfl⟩ := h
       have hf : ∀ j, a.fits (g j) := hC _ (List.mem_singleton.2 rfl)
       exact ⟨Sh.mkL esz a fun _ => rdL a.rd len g, Sh.fits_mk (.slice esz a) (p := .slice tok esz len g) ⟨rfl, hf⟩ hr, hA _⟩
     · rw [nbeq (fun h => e h.symm)] at h; cases h
   case nils =>
     simp only [Option.some.injEq, Prod.mk.injEq] at h
     obtain ⟨rfl, rfl⟩ := h
     exact ⟨Sh.mkL esz a fun _ => [], Sh.fits_mk (.slice esz a) (p := .nils) trivial hr, hA _⟩
 | fn g =>
   intro R f Φ p q C ρ m vs h hA hC hr
   cases p <;> try (simp only [Sh.app, reduceCtorEq] at h; done)
   rename_i g' x y
   cases g' <;> cases x <;> cases y <;> try (simp only [Sh.app, reduceCtorEq] at h; done)
   simp only [Sh.app] at h
   rename_i g'
   by_cases e : g = g'
   · subst e
     simp only [beq_self_eq_true, cond_true, Option.some.injEq, Prod.mk.injEq] at h
     obtain ⟨rfl, rfl⟩ := h
     exact ⟨_, hr, hA⟩
   · rw [nbeq (fun h => e h.symm)] at h; cases h
 | eptr esz a ih =>
   intro R f Φ p q C ρ m vs h hA hC hr
   cases p <;> try (simp only [Sh.app, reduceCtorEq] at h; done)
   rename_i esz' len g i off
   simp only [Sh.app] at h
   by_cases e : esz = esz' /\ off = 0
   · obtain ⟨rfl, rfl⟩ := e
     simp only [beq_self_eq_true, Bool.and_self, cond_true] at h
     obtain ⟨b, base, n, h1, h2, h3, hrow, h4⟩ := hr
     obtain ⟨cs, c1, c2, c3⟩ := hrow (i ()).toNat (by omega)
     have ei : (fun _ : Unit => (((i ()).toNat : Nat) : Int)) = i := by funext u; exact Int.toNat_of_nonneg h2
     rw [ei] at c2
     obtain ⟨x', l1, l2⟩ := ih h hA hC c2
     refine ⟨.eptr esz (fun _ => 1) (fun _ => x') (fun _ => 0) 0, ⟨b, base + (i ()).toNat * esz, 1, rfl, Int.le_refl _, by decide, fun j hj => ?_, by simpa using h4⟩, l2⟩
     obtain rfl : j = 0 := by omega
     exact ⟨cs, c1, l1, fun q hq => by simpa using c3 q hq⟩
   · have : (beqN esz esz' && beqN off 0) = false := by
       rw [Bool.eq_false_iff]; intro hc; simp only [Bool.and_eq_true, beq_iff_eq] at hc; exact e hc
     rw [this] at h; cases h
 | fnv g a ih =>
   intro R f Φ p q C ρ m vs h hA hC hr
   cases p <;> try (simp only [Sh.app, reduceCtorEq] at h; done)
   rename_i g' x y
   cases g' <;> cases x <;> try (simp only [Sh.app, reduceCtorEq] at h; done)
   simp only [Sh.app] at h
   rename_i g'
   by_cases e : g = g'
   · subst e
     simp only [beq_self_eq_true, cond_true] at h
     obtain ⟨fs, cs, k1, k2, k3⟩ := hr
     obtain ⟨x', l1, l2⟩ := ih h hA hC k3
     exact ⟨.func (.func g) .nil x', ⟨fs, cs, k1, k2, l1⟩, l2⟩
   · rw [nbeq (fun h => e h.symm)] at h; cases h
abbrev Res := PV × List (Unit -> Prop)
def entry (a : Sh) (f : a.Fn Res) (args : PV) : Option Res :=
 match a.app f args with
 | some ((r, C), C') => some (r, C ++ C')
 | none => none
def addS (f : Nat) (a : Sh) (s : a.Fn Res) (F : Table) : Table := fun g args => bif beqN g f then (match entry a s args with
 | some r => some r
 | none => F g args) else F g args
theorem entry_ok {f : Nat} {a : Sh} {s : a.Fn Res} (hc : Callable P f) (h : a.All s fun args q => conds q.2 -> PFun P G f args q.1) {args r : PV} {C : List (Unit -> Prop)} (hs : entry a s args = some (r, C)) (hC : ∀ c ∈ C, c ()) : PFun P G f args r := by
 refine ⟨hc, fun M w vs hG hI hr => ?_⟩
 unfold entry at hs
 cases h1 : a.app s args with
 | none => rw [h1] at hs; cases hs
 | some q =>
   obtain ⟨⟨r1, C1⟩, C2⟩ := q
   rw [h1] at hs
   simp only [Option.some.injEq, Prod.mk.injEq] at hs
   obtain ⟨rfl, rfl⟩ := hs
   obtain ⟨p', k1, k2⟩ := Sh.app_ok a h1 h (fun c hc => hC c (List.mem_append_right _ hc)) hr
   have hcond : conds C1 := by
     clear h1 k2
     induction C1 with
     | nil => trivial
     | cons c C ih => exact ⟨hC c (by simp), ih fun c hc => hC c (by simp only [List.mem_append, List.mem_cons] at hc ⊢; rcases hc with hc | hc; exact .inl (.inr hc); exact .inr hc)⟩
   exact (k2 hcond).2 M w vs hG hI k1
theorem addS_ok {f : Nat} {a : Sh} {s : a.Fn Res} {F : Table} (hc : Callable P f) (h : a.All s fun args q => conds q.2 -> PFun P G f args q.1) (hF : TableOK P G F) : TableOK P G (addS f a s F) := by
 intro g args r C hq hC
 unfold addS at hq
 cases hb : beqN g f with
 | true =>
   obtain rfl : g = f := by simpa using hb
   rw [hb] at hq
   simp only [cond_true] at hq
   split at hq
   · rename_i q hs
     simp only [Option.some.injEq] at hq
     subst hq
     exact entry_ok hc h hs hC
   · exact hF _ _ _ _ hq hC
 | false =>
   rw [hb] at hq
   exact hF _ _ _ _ hq hC
end Go.Abs
namespace Go.Abs
variable {P : Program} {G : Gs}
def PV.mrx (c : Unit -> Bool) : PV -> PV -> PV
 | .tuple l, .tuple l' => .tuple (PV.mrx c l l')
 | .agg l, .agg l' => .agg (PV.mrx c l l')
 | .cons x r, .cons x' r' => .cons (PV.mrx c x x') (PV.mrx c r r')
 | .arrI k n l, .arrI k' n' l' => bif decide (k = k') && beqN n n' then .arrI k n (fun _ => bif c () then l () else l' ()) else bif c () then .arrI k n l else .arrI k' n' l'
 | .arrB n l, .arrB n' l' => bif beqN n n' then .arrB n (fun _ => bif c () then l () else l' ()) else bif c () then .arrB n l else .arrB n' l'
 | .arrS n l, .arrS n' l' => bif beqN n n' then .arrS n (fun _ => bif c () then l () else l' ()) else bif c () then .arrS n l else .arrS n' l'
 | .nils, .slice none esz len f => .slice none esz (fun _ => bif c () then 0 else len ()) f
 | .slice none esz len f, .nils => .slice none esz (fun _ => bif c () then len () else 0) f
 | p, q => PV.mrg c p q
theorem mrx_tt {M : Mem} {c : Unit -> Bool} (hc : c () = true) : ∀ (p q : PV) {ρ : Names} {m : Mode} {vs : List Value}, rel M p ρ m vs -> rel M (PV.mrx c p q) ρ m vs := by
 intro p
 induction p with
 | tuple l ih =>
   intro q ρ m vs h
   cases q with
   | tuple l' => obtain ⟨h1, ws, h2, h3⟩ := h; exact ⟨h1, ws, h2, ih _ h3⟩
   | _ => exact mrg_tt hc _ _ h
 | agg l ih =>
   intro q ρ m vs h
   cases q with
   | agg l' =>
     rcases h with ⟨h1, h2⟩ | ⟨h1, cs, h2, h3⟩
     · exact .inl ⟨h1, ih _ h2⟩
     · exact .inr ⟨h1, cs, h2, ih _ h3⟩
   | _ => exact mrg_tt hc _ _ h
 | cons x r ih1 ih2 =>
   intro q ρ m vs h
   cases q with
   | cons x' r' =>
     rcases h with ⟨h1, a, d, h2, h3, h4⟩ | ⟨h1, v, ws, h2, h3, h4⟩
     · exact .inl ⟨h1, a, d, h2, ih1 _ h3, ih2 _ h4⟩
     · exact .inr ⟨h1, v, ws, h2, ih1 _ h3, ih2 _ h4⟩
   | _ => exact mrg_tt hc _ _ h
 | arrI k n l =>
   intro q ρ m vs h
   cases q with
   | arrI k' n' l' =>
     simp only [PV.mrx, hc, cond_true]
     cases (decide (k = k') && beqN n n') with
     | true => simpa only [cond_true, rel, hc] using h
     | false => exact h
   | _ => exact mrg_tt hc _ _ h
 | arrB n l =>
   intro q ρ m vs h
   cases q with
   | arrB n' l' =>
     simp only [PV.mrx, hc, cond_true]
     cases beqN n n' with
     | true => simpa only [cond_true, rel, hc] using h
     | false => exact h
   | _ => exact mrg_tt hc _ _ h
 | arrS n l =>
   intro q ρ m vs h
   cases q with
   | arrS n' l' =>
     simp only [PV.mrx, hc, cond_true]
     cases beqN n n' with
     | true => simpa only [cond_true, rel, hc] using h
     | false => exact h
   | _ => exact mrg_tt hc _ _ h
 | nils =>
   intro q ρ m vs h
   cases q with
   | slice tok esz len f =>
     cases tok with
     | none =>
       simp only [PV.mrx, hc, cond_true]
       exact ⟨none, 0, 0, h, rfl, Nat.le_refl _, Nat.zero_le _, fun id hid => (by cases hid), fun hn => (by omega)⟩
     | some id => exact mrg_tt hc _ _ h
   | _ => exact mrg_tt hc _ _ h
 | slice tok esz len f ih =>
   intro q ρ m vs h
   cases tok with
   | some id => cases q <;> exact mrg_tt hc _ _ h
   | none =>
     cases q with
     | nils => simp only [PV.mrx, hc, cond_true]; exact h
     | _ => exact mrg_tt hc _ _ h
 | _ => intro q ρ m vs h; cases q <;> exact mrg_tt hc _ _ h
theorem mrx_ff {M : Mem} {c : Unit -> Bool} (hc : c () = false) : ∀ (p q : PV) {ρ : Names} {m : Mode} {vs : List Value}, rel M q ρ m vs -> rel M (PV.mrx c p q) ρ m vs := by
 intro p
 induction p with
 | tuple l ih =>
   intro q ρ m vs h
   cases q with
   | tuple l' => obtain ⟨h1, ws, h2, h3⟩ := h; exact ⟨h1, ws, h2, ih _ h3⟩
   | _ => exact mrg_ff hc _ _ h
 | agg l ih =>
   intro q ρ m vs h
   cases q with
   | agg l' =>
     rcases h with ⟨h1, h2⟩ | ⟨h1, cs, h2, h3⟩
     · exact .inl ⟨h1, ih _ h2⟩
     · exact .inr ⟨h1, cs, h2, ih _ h3⟩
   | _ => exact mrg_ff hc _ _ h
 | cons x r ih1 ih2 =>
   intro q ρ m vs h
   cases q with
   | cons x' r' =>
     rcases h with ⟨h1, a, d, h2, h3, h4⟩ | ⟨h1, v, ws, h2, h3, h4⟩
     · exact .inl ⟨h1, a, d, h2, ih1 _ h3, ih2 _ h4⟩
     · exact .inr ⟨h1, v, ws, h2, ih1 _ h3, ih2 _ h4⟩
   | _ => exact mrg_ff hc _ _ h
 | arrI k n l =>
   intro q ρ m vs h
   cases q with
   | arrI k' n' l' =>
     simp only [PV.mrx, hc, cond_false]
     cases hb : (decide (k = k') && beqN n n') with
     | true =>
       simp only [Bool.and_eq_true, decide_eq_true_eq, beq_iff_eq] at hb
       obtain ⟨rfl, rfl⟩ := hb
       simpa only [cond_true, cond_false, rel, hc] using h
     | false => exact h
   | _ => exact mrg_ff hc _ _ h
 | arrB n l =>
   intro q ρ m vs h
   cases q with
   | arrB n' l' =>
     simp only [PV.mrx, hc, cond_false]
     cases hb : beqN n n' with
     | true =>
       obtain rfl : n = n' := by simpa using hb
       simpa only [cond_true, cond_false, rel, hc] using h
     | false => exact h
   | _ => exact mrg_ff hc _ _ h
 | arrS n l =>
   intro q ρ m vs h
   cases q with
   | arrS n' l' =>
     simp only [PV.mrx, hc, cond_false]
     cases hb : beqN n n' with
     | true =>
       obtain rfl : n = n' := by simpa using hb
       simpa only [cond_true, cond_false, rel, hc] using h
     | false => exact h
   | _ => exact mrg_ff hc _ _ h
 | nils =>
   intro q ρ m vs h
   cases q with
   | slice tok esz len f =>
     cases tok with
     | none => simp only [PV.mrx, hc, cond_false]; exact h
     | some id => exact mrg_ff hc _ _ h
   | _ => exact mrg_ff hc _ _ h
 | slice tok esz len f ih =>
   intro q ρ m vs h
   cases tok with
   | some id => cases q <;> exact mrg_ff hc _ _ h
   | none =>
     cases q with
     | nils =>
       simp only [PV.mrx, hc, cond_false]
       exact ⟨none, 0, 0, h, rfl, Nat.le_refl _, Nat.zero_le _, fun id hid => (by cases hid), fun hn => (by omega)⟩
     | _ => exact mrg_ff hc _ _ h
 | _ => intro q ρ m vs h; cases q <;> exact mrg_ff hc _ _ h
def brC (b : Unit -> Bool) : List (Unit -> Prop) -> List (Unit -> Prop) -> List (Unit -> Prop)
 | [], [] => []
 | C, C' => [fun _ => (b () = true -> conds C) /\ (b () = false -> conds C')]
theorem brC_ok {b : Unit -> Bool} {C C' : List (Unit -> Prop)} (h : conds (brC b C C')) : (b () = true -> conds C) /\ (b () = false -> conds C') := by
 cases C with
 | nil => cases C' with
   | nil => exact ⟨fun _ => trivial, fun _ => trivial⟩
   | cons c C' => exact h.1
 | cons c C => exact h.1
def flat : Tree -> Option Res
 | .leaf v _ => bif v.pure then some (v.strip, []) else none
 | .br b t f => match flat t, flat f with
   | some (v, C), some (v', C') => some (PV.mrx b v v', brC b C C')
   | _, _ => none
 | .need C t => match flat t with
   | some (v, C') => some (v, C ++ C')
   | none => none
 | .stuck _ => none
def Covers (r : PV) : PV -> Store -> Prop := fun pv _ => pv.pure = true /\ ∀ (M : Mem) (m : Mode) (vs : List Value), rel M pv.strip noNames m vs -> rel M r noNames m vs
def Tree.flatOK (r : PV) : Tree -> Prop
 | .leaf v S => Covers r v S
 | .br b t f => (b () = true -> Tree.flatOK r t) /\ (b () = false -> Tree.flatOK r f)
 | .need C t => conds C /\ Tree.flatOK r t
 | .stuck _ => False
theorem Tree.flatOK_mono {r r' : PV} (h : ∀ (M : Mem) (m : Mode) (vs : List Value), rel M r noNames m vs -> rel M r' noNames m vs) : ∀ {t : Tree}, t.flatOK r -> t.flatOK r'
 | .leaf v S, k => ⟨k.1, fun M m vs hr => h M m vs (k.2 M m vs hr)⟩
 | .br b t f, k => ⟨fun e => Tree.flatOK_mono h (k.1 e), fun e => Tree.flatOK_mono h (k.2 e)⟩
 | .need C t, k => ⟨k.1, Tree.flatOK_mono h k.2⟩
 | .stuck c, k => k.elim
theorem flat_ok : ∀ {t : Tree} {r : PV} {C : List (Unit -> Prop)}, flat t = some (r, C) -> conds C -> t.flatOK r
 | .leaf v S, r, C, h, hC => by
   simp only [flat] at h
   cases hp : v.pure with
   | false => simp [hp] at h
   | true =>
     simp only [hp, cond_true, Option.some.injEq, Prod.mk.injEq] at h
     obtain ⟨rfl, rfl⟩ := h
     exact ⟨hp, fun _ _ _ h => h⟩
 | .br b t f, r, C, h, hC => by
   simp only [flat] at h
   split at h
   · rename_i v C1 v' C2 h1 h2
     simp only [Option.some.injEq, Prod.mk.injEq] at h
     obtain ⟨rfl, rfl⟩ := h
     obtain ⟨k1, k2⟩ := brC_ok hC
     exact ⟨fun e => Tree.flatOK_mono (fun M m vs hr => mrx_tt e _ _ hr) (flat_ok h1 (k1 e)), fun e => Tree.flatOK_mono (fun M m vs hr => mrx_ff e _ _ hr) (flat_ok h2 (k2 e))⟩
   · cases h
 | .need C0 t, r, C, h, hC => by
   simp only [flat] at h
   cases ht : flat t with
   | none => rw [ht] at h; cases h
   | some q =>
     obtain ⟨v, C'⟩ := q
     rw [ht] at h
     simp only [Option.some.injEq, Prod.mk.injEq] at h
     obtain ⟨rfl, rfl⟩ := h
     obtain ⟨k1, k2⟩ := conds_append hC
     exact ⟨k1, flat_ok ht k2⟩
 | .stuck c, r, C, h, hC => by cases h
theorem Tree.flatOK_tree {X : Ctx} {fn : Func} {r : PV} : ∀ {t : Tree}, t.flatOK r -> TreeOK P X fn (Covers r) t
 | .leaf v S, k => k
 | .br b t f, k => ⟨fun e => Tree.flatOK_tree (k.1 e), fun e => Tree.flatOK_tree (k.2 e)⟩
 | .need C t, k => ⟨k.1, Tree.flatOK_tree k.2⟩
 | .stuck c, k => k.elim
def auto (X : Ctx) (O : OpX) (c : Code) (m : Nat) (args : PV) : Option Res :=
 bif bleN args.count X.N then flat (explore X O false m ⟨[.code c], Env.enter 0 args, [], 0⟩) else none
def addA (f : Nat) (X : Ctx) (O : OpX) (c : Code) (m : Nat) (F : Table) : Table := addF f (auto X O c m) F
theorem conds_of {C : List (Unit -> Prop)} (h : ∀ c ∈ C, c ()) : conds C := by
 induction C with
 | nil => trivial
 | cons c C ih => exact ⟨h c (by simp), ih fun c hc => h c (by simp [hc])⟩
theorem FnOK.auto {X : Ctx} {f : Nat} {fn : Func} {c : Code} (h : FnOK P X f fn c) {O : OpX} (hO : OpXOK P X.G O) {m : Nat} {args r : PV} {C : List (Unit -> Prop)} (ha : auto X O c m args = some (r, C)) (hC : conds C) : PFun P X.G f args r := by
 unfold Abs.auto at ha
 cases hb : bleN args.count X.N with
 | false => rw [hb] at ha; cases ha
 | true =>
   rw [hb, cond_true] at ha
   refine ⟨h.callable, fun M w vs hG hI hv => (calls_of_run h.n0.2 h.func h.body h.ntmps (by simpa using hb) (by rw [h.n0.1]; exact Nat.le_refl _) (explore_ok h.ok hO m _ rfl (Tree.flatOK_tree (flat_ok ha hC))) hG hI (fun _ _ => rfl) hv).mono ?_⟩
   rintro e w' ⟨M', ρ', v, pv, S', rfl, h1, h2, h3, h4⟩
   exact ⟨M', ρ', v, Store.get S', rfl, by rw [h.n0.1] at h1; exact h1, h4 _ _ _ (strip_rel _ h3 h2)⟩
theorem addA_ok {X : Ctx} {f : Nat} {fn : Func} {c : Code} (h : FnOK P X f fn c) {O : OpX} (hO : OpXOK P X.G O) {m : Nat} {F : Table} (hF : TableOK P X.G F) : TableOK P X.G (addA f X O c m F) :=
 addF_ok (fun _ _ _ ha hC => h.auto hO ha (conds_of hC)) hF
end Go.Abs
namespace Go.Abs
variable {P : Program}
theorem cast_fold (n : Nat) : @NatCast.natCast Int instNatCastInt n = @Nat.cast Int instNatCastInt n := rfl
theorem impP_refl : ∀ p : PV, impP p p := by
 intro p
 induction p with
 | slice tok esz len f ih => exact ⟨.inr rfl, rfl, rfl, fun j _ _ => ih _⟩
 | agg l ih => exact ih
 | tuple l ih => exact ih
 | cons x r ih1 ih2 => exact ⟨ih1, ih2⟩
 | int k n => exact ⟨rfl, rfl⟩
 | arrI k n l => exact ⟨rfl, rfl, rfl⟩
 | arrB n l => exact ⟨rfl, rfl⟩
 | arrS n l => exact ⟨rfl, rfl⟩
 | _ => exact rfl
def mvOK (σ : Nat -> Nat) (n0 n : Nat) (A : Env) (S : Store) : Bool := belowA n A && belowS n S && bleN n0 n && idS σ n0 && injS σ S
theorem run_mv {X : Ctx} {fn : Func} {Q : PV -> Store -> Prop} {k : List It} (σ : Nat -> Nat) {A A' : Env} {S S' : Store} {n n' : Nat} (hk : plainK k = true) (h : RunC P X fn Q ⟨k, A, S, n⟩) (hc : mvOK σ X.n0 n A S = true) (hAe : impA σ A' A) (hSe : impS σ S' S) : RunC P X fn Q ⟨k, A', S', n'⟩ := by
 simp only [mvOK, Bool.and_eq_true] at hc
 exact run_move σ hk h hc.1.1.1.1 hc.1.1.1.2 hc.1.1.2 hc.1.2 hc.2 hAe hSe
theorem run_inv {X : Ctx} {fn : Func} {Q : PV -> Store -> Prop} {c : Code} {k : List It} {ι : Type} (μ : ι -> Nat) (I : ι -> Prop) (A : ι -> Env) (S : ι -> Store) (n : Nat) (i0 : ι) (σ0 : Nat -> Nat) {A' : Env} {S' : Store} {n' : Nat} (hk : plainK k = true)
  (hc : mvOK σ0 X.n0 n (A i0) (S i0) = true) (h0 : I i0)
  (h : ∀ i, I i -> (∀ (j : ι) (σ : Nat -> Nat) {A1 : Env} {S1 : Store} {n1 : Nat}, I j -> μ j < μ i -> mvOK σ X.n0 n (A j) (S j) = true -> impA σ A1 (A j) -> impS σ S1 (S j) -> RunC P X fn Q ⟨.inLoop c :: k, A1, S1, n1⟩) -> RunC P X fn Q ⟨.code c :: .inLoop c :: k, A i, S i, n⟩)
  (hAe : impA σ0 A' (A i0)) (hSe : impS σ0 S' (S i0)) : RunC P X fn Q ⟨.inLoop c :: k, A', S', n'⟩ := by
 have hk' : plainK (.inLoop c :: k) = true := hk
 refine run_mv σ0 hk' (run_loop μ A S n I hk ?_ i0 h0) hc hAe hSe
 intro i hi ih
 exact h i hi fun j σ A1 S1 n1 hj hlt hm hA hS => run_mv σ hk' (ih j hj hlt) hm hA hS
theorem iR {p : PV} : impP p p := impP_refl p
theorem oN (n : Nat) : Int.ofNat n = (n : Int) := Int.ofNat_eq_natCast n
end Go.Abs
