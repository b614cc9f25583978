/- A part of what the walks of this claim stand on. -/
import Derived.Test.YtpbjcabecalpaaaGreatDoorGac
import Derived.Carry
import Derived.OpenShut
import Derived.RowKit
import Derived.Deep.DeepHandedRow
import Derived.Lib.LaidTab
set_option maxRecDepth 2000
set_option linter.unusedVariables false
set_option linter.unusedSimpArgs false
namespace Go.Abs
variable {P : Program} {G : Gs}
def memOf (W : World) : Mem := ⟨fun b i => W.cell? ⟨b, i, none⟩, fun b => W.heap[b]?⟩
def Sh.cells : Sh -> Nat
 | .int _ => 1
 | .bool => 1
 | .str => 1
 | .arrI _ n => n
 | .arrB n => n
 | .arrS n => n
 | .nil => 0
 | .cons a b => a.cells + b.cells
 | .agg a => a.cells
 | .slice _ _ => 1
 | .fn _ => 1
 | .eptr _ _ => 1
 | .fnv _ _ => 1
def TS (P : Program) : Sh -> Sum TypeId (Nat × List Field) -> Prop
 | .int k, .inl t => P.underlying t = some (.int k)
 | .bool, .inl t => P.underlying t = some .bool
 | .str, .inl t => P.underlying t = some .string
 | .arrI k n, .inl t => ∃ e, P.underlying t = some (.array n e) /\ P.underlying e = some (.int k) /\ P.cellsOf e = 1 /\ P.cellsOf t = n
 | .arrB n, .inl t => ∃ e, P.underlying t = some (.array n e) /\ P.underlying e = some .bool /\ P.cellsOf e = 1 /\ P.cellsOf t = n
 | .arrS n, .inl t => ∃ e, P.underlying t = some (.array n e) /\ P.underlying e = some .string /\ P.cellsOf e = 1 /\ P.cellsOf t = n
 | .agg a, .inl t => ∃ fs, P.underlying t = some (.struct fs) /\ P.cellsOf t = a.cells /\ TS P a (.inr (0, fs.toList))
 | .nil, .inr (_, []) => True
 | .cons x r, .inr (off, f :: fs) => f.offset = off /\ P.cellsOf f.type = x.cells /\ TS P x (.inl f.type) /\ TS P r (.inr (off + x.cells, fs))
 | .slice esz a, .inl t => ∃ e, P.underlying t = some (.slice e) /\ P.cellsOf e = esz /\ 0 < esz /\ TS P a (.inl e)
 | _, _ => False
def allL {α : Type} (p : α -> Prop) (l : List α) : Prop := ∀ (i : Nat) (x : α), l[i]? = some x -> p x
def Sh.okV : (a : Sh) -> a.val -> Prop
 | .int k, n => (Lit.int k n).wf = true
 | .bool, _ => True
 | .str, s => s.size <= maxLen
 | .arrI k n, l => List.length (α := Int) l = n /\ allL (α := Int) (fun x => (Lit.int k x).wf = true) l
 | .arrB n, l => List.length (α := Bool) l = n
 | .arrS n, l => List.length (α := ByteArray) l = n /\ allL (α := ByteArray) (fun x => x.size <= maxLen) l
 | .nil, _ => True
 | .cons a b, x => a.okV x.1 /\ b.okV x.2
 | .agg a, x => a.okV x
 | .slice _ a, l => List.length (α := a.val) l <= maxLen /\ allL (α := a.val) (fun x => a.okV x) l
 | .fn _, _ => True
 | .eptr _ _, _ => True
 | .fnv _ _, _ => True
theorem one_elem {α : Type} (cs : List Value) (n : Nat) (hn : cs.length = n) (R : Value -> α -> Prop) (h : ∀ i, i < n -> ∃ x v, (cs.drop (i * 1)).take 1 = [v] /\ R v x) : ∃ l : List α, l.length = n /\ ∀ (i : Nat) (v : Value), cs[i]? = some v -> ∃ x : α, l[i]? = some x /\ R v x := by
 induction cs generalizing n with
 | nil => exact ⟨[], by simpa using hn, fun i v hv => by simp at hv⟩
 | cons c cs ih =>
   simp only [List.length_cons] at hn
   obtain ⟨x, v, h1, h2⟩ := h 0 (by omega)
   simp only [Nat.zero_mul, List.drop_zero, List.take_succ_cons, List.take_zero, List.cons.injEq, and_true] at h1
   subst h1
   obtain ⟨l, hl, hl2⟩ := ih (n - 1) (by omega) fun i hi => by
     obtain ⟨x, v, h1, h2⟩ := h (i + 1) (by omega)
     refine ⟨x, v, ?_, h2⟩
     simpa using h1
   refine ⟨x :: l, by simp [hl]; omega, fun i v hv => ?_⟩
   cases i with
   | zero => simp only [List.getElem?_cons_zero, Option.some.injEq] at hv ⊢; subst hv; exact ⟨x, rfl, h2⟩
   | succ i => simpa using hl2 i v (by simpa using hv)
theorem map_of_each {α : Type} {cs : List Value} {l : List α} (g : α -> Value) (hl : l.length = cs.length) (h : ∀ (i : Nat) (v : Value), cs[i]? = some v -> ∃ x : α, l[i]? = some x /\ v = g x) : cs = l.map g := by
 apply List.ext_getElem?
 intro i
 rw [List.getElem?_map]
 cases hc : cs[i]? with
 | none => rw [List.getElem?_eq_none (by rw [hl]; exact List.getElem?_eq_none_iff.1 hc)]; rfl
 | some v => obtain ⟨x, hx, rfl⟩ := h i v hc; rw [hx]; rfl
section
variable {H : Type} {enc : TypeId × Value -> H} {W : World} {base : Nat} {sp : Nat -> Bool} {held : Bool}
theorem open_sh : ∀ (a : Sh) (x : Sum TypeId (Nat × List Field)), TS P a x -> (match x with
  | .inl t => ∀ (fuel : Nat) (cs : List Value) (y : DataW H × List MemPlace), DataW.trod enc P W base sp held fuel t cs = some y -> ∃ v : a.val, a.okV v /\ ∀ ρ, rel (memOf W) (a.mk fun _ => v) ρ .cells cs
  | .inr (off, fs) => ∀ (cs : List Value), (∀ (i : Nat) (f : Field), fs[i]? = some f -> ∃ fuel y, DataW.trod enc P W base sp held fuel f.type ((cs.drop f.offset).take (P.cellsOf f.type)) = some y) -> ∃ v : a.val, a.okV v /\ ∀ ρ, rel (memOf W) (a.mk fun _ => v) ρ .cells ((cs.drop off).take a.cells)) := by
 intro a
 induction a with
 | int k =>
   intro x hT
   cases x with
   | inr y => exact hT.elim
   | inl t =>
     intro fuel cs y h
     obtain ⟨n, rfl, _, hw⟩ := DataW.trod_int hT h
     exact ⟨n, hw, fun ρ => ⟨by simp, rfl⟩⟩
 | bool =>
   intro x hT
   cases x with
   | inr y => exact hT.elim
   | inl t =>
     intro fuel cs y h
     obtain ⟨n, rfl, _⟩ := DataW.trod_bool hT h
     exact ⟨n, trivial, fun ρ => ⟨by simp, rfl⟩⟩
 | str =>
   intro x hT
   cases x with
   | inr y => exact hT.elim
   | inl t =>
     intro fuel cs y h
     obtain ⟨n, rfl, _, hw⟩ := DataW.trod_string hT h
     exact ⟨n, hw, fun ρ => ⟨by simp, rfl⟩⟩
 | arrI k n =>
   intro x hT
   cases x with
   | inr y => exact hT.elim
   | inl t =>
     obtain ⟨e, h1, h2, h3, h4⟩ := hT
     intro fuel cs y h
     obtain ⟨xs, m, _, _, hl, hxs, hx⟩ := DataW.trod_array h1 h
     rw [h3] at hx
     obtain ⟨l, hll, hl2⟩ := one_elem (α := Int) cs n (by omega) (fun v z => v = .int k z /\ (Lit.int k z).wf = true) fun i hi => by
       obtain ⟨z, q1, _, q2⟩ := DataW.trod_int h2 ((hx i hi).trans (List.getElem?_eq_getElem (by omega)))
       exact ⟨z, _, q1, rfl, q2⟩
     refine ⟨l, ⟨hll, fun i z hz => ?_⟩, fun ρ => ⟨hll, .inl ⟨rfl, map_of_each (.int k) (hll.trans (by omega)) fun i v hv => ?_⟩⟩⟩
     · obtain ⟨v, hv⟩ : ∃ v, cs[i]? = some v := ⟨cs[i]'(by have := (List.getElem?_eq_some_iff.1 hz).1; omega), List.getElem?_eq_getElem _⟩
       obtain ⟨x, hx, _, hw⟩ := hl2 i v hv
       have hz : l[i]? = some z := hz
       rw [hx] at hz; cases hz; exact hw
     · obtain ⟨x, hx, e, _⟩ := hl2 i v hv
       exact ⟨x, hx, e⟩
 | arrB n =>
   intro x hT
   cases x with
   | inr y => exact hT.elim
   | inl t =>
     obtain ⟨e, h1, h2, h3, h4⟩ := hT
     intro fuel cs y h
     obtain ⟨xs, m, _, _, hl, hxs, hx⟩ := DataW.trod_array h1 h
     rw [h3] at hx
     obtain ⟨l, hll, hl2⟩ := one_elem (α := Bool) cs n (by omega) (fun v z => v = .bool z) fun i hi => by
       obtain ⟨z, q1, _⟩ := DataW.trod_bool h2 ((hx i hi).trans (List.getElem?_eq_getElem (by omega)))
       exact ⟨z, _, q1, rfl⟩
     exact ⟨l, hll, fun ρ => ⟨hll, .inl ⟨rfl, map_of_each .bool (hll.trans (by omega)) hl2⟩⟩⟩
 | arrS n =>
   intro x hT
   cases x with
   | inr y => exact hT.elim
   | inl t =>
     obtain ⟨e, h1, h2, h3, h4⟩ := hT
     intro fuel cs y h
     obtain ⟨xs, m, _, _, hl, hxs, hx⟩ := DataW.trod_array h1 h
     rw [h3] at hx
     obtain ⟨l, hll, hl2⟩ := one_elem (α := ByteArray) cs n (by omega) (fun v z => v = .string z /\ z.size <= maxLen) fun i hi => by
       obtain ⟨z, q1, _, q2⟩ := DataW.trod_string h2 ((hx i hi).trans (List.getElem?_eq_getElem (by omega)))
       exact ⟨z, _, q1, rfl, q2⟩
     refine ⟨l, ⟨hll, fun i z hz => ?_⟩, fun ρ => ⟨hll, .inl ⟨rfl, map_of_each .string (hll.trans (by omega)) fun i v hv => ?_⟩⟩⟩
     · obtain ⟨v, hv⟩ : ∃ v, cs[i]? = some v := ⟨cs[i]'(by have := (List.getElem?_eq_some_iff.1 hz).1; omega), List.getElem?_eq_getElem _⟩
       obtain ⟨x, hx, _, hw⟩ := hl2 i v hv
       have hz : l[i]? = some z := hz
       rw [hx] at hz; cases hz; exact hw
     · obtain ⟨x, hx, e, _⟩ := hl2 i v hv
       exact ⟨x, hx, e⟩
 | nil =>
   intro x hT
   cases x with
   | inl t => exact hT.elim
   | inr y =>
     obtain ⟨off, fs⟩ := y
     intro cs h
     exact ⟨(), trivial, fun ρ => ⟨by simp, by simp [Sh.cells]⟩⟩
 | cons x r ih1 ih2 =>
   intro y hT
   cases y with
   | inl t => exact hT.elim
   | inr y =>
     obtain ⟨off, fs⟩ := y
     cases fs with
     | nil => exact hT.elim
     | cons f fs =>
       obtain ⟨h1, h2, h3, h4⟩ := hT
       intro cs h
       obtain ⟨fuel, z, hz⟩ := h 0 f rfl
       obtain ⟨v1, w1, r1⟩ := ih1 _ h3 fuel _ z hz
       obtain ⟨v2, w2, r2⟩ := ih2 _ h4 cs fun i g hg => h (i + 1) g (by simpa using hg)
       refine ⟨(v1, v2), ⟨w1, w2⟩, fun ρ => .inl ⟨rfl, _, _, ?_, r1 ρ, r2 ρ⟩⟩
       rw [h1, h2]
       simp only [Sh.cells]
       rw [List.take_add, List.drop_drop]
 | agg a ih =>
   intro x hT
   cases x with
   | inr y => exact hT.elim
   | inl t =>
     obtain ⟨fs, h1, h2, h3⟩ := hT
     intro fuel cs y h
     obtain ⟨xs, n, _, _, hl, hxs, hx⟩ := DataW.trod_struct h1 h
     obtain ⟨v, w, r⟩ := ih _ h3 cs fun i f hf => by
       have hi : i < fs.size := by have := (List.getElem?_eq_some_iff.1 hf).1; simpa using this
       exact ⟨n, _, (hx i f (by simpa using hf)).trans (List.getElem?_eq_getElem (by omega))⟩
     refine ⟨v, w, fun ρ => .inl ⟨rfl, ?_⟩⟩
     have := r ρ
     rwa [List.drop_zero, List.take_of_length_le (by omega)] at this
 | slice esz a ih =>
   intro x hT
   cases x with
   | inr y => exact hT.elim
   | inl t =>
     obtain ⟨e, h1, h2, h3, h4⟩ := hT
     intro fuel cs y h
     rcases DataW.trod_slice h1 h with ⟨rfl, _⟩ | ⟨ad, len, cap, elems, rest, n, _, rfl, _, hb, hlc, hcm, hel, he, _⟩
     · exact ⟨([] : List a.val), ⟨Nat.zero_le _, fun i x hx => by simp at hx⟩, fun ρ => ⟨none, 0, 0, ⟨by simp, rfl⟩, rfl, Nat.le_refl _, Nat.zero_le _, fun id h => (by cases h), fun h => (by omega)⟩⟩
     · rw [h2] at he
       have key : ∀ i, i < len -> ∃ v : a.val, a.okV v /\ ∃ c : List Value, c.length = esz /\ (∀ q, q < esz -> W.cell? ((ad.add (i * esz)).add q) = c[q]?) /\ ∀ ρ, rel (memOf W) (a.mk fun _ => v) ρ .cells c := by
         intro i hi
         have hq := he i hi
         rw [List.getElem?_eq_getElem (by omega), Option.bind_eq_some_iff] at hq
         obtain ⟨c, k1, k2⟩ := hq
         obtain ⟨_, k3, k4⟩ := World.cells?_some k1
         obtain ⟨v, w, r⟩ := ih _ h4 n c _ k2
         exact ⟨v, w, c, k3, k4, r⟩
       have hlist : ∀ m, m <= len -> ∃ l : List a.val, l.length = m /\ ∀ i (hi : i < m), ∃ v, l[i]? = some v /\ a.okV v /\ ∃ c : List Value, c.length = esz /\ (∀ q, q < esz -> W.cell? ((ad.add (i * esz)).add q) = c[q]?) /\ ∀ ρ, rel (memOf W) (a.mk fun _ => v) ρ .cells c := by
         intro m
         induction m with
         | zero => intro _; exact ⟨[], rfl, fun i hi => by omega⟩
         | succ m ihm =>
           intro hm
           obtain ⟨l, hl, hl2⟩ := ihm (by omega)
           obtain ⟨v, hv⟩ := key m (by omega)
           refine ⟨l ++ [v], by simp [hl], fun i hi => ?_⟩
           by_cases e : i = m
           · subst e
             exact ⟨v, by rw [List.getElem?_append_right (by omega)]; simp [hl], hv⟩
           · obtain ⟨v', q1, q2⟩ := hl2 i (by omega)
             exact ⟨v', by rw [List.getElem?_append_left (by omega)]; exact q1, q2⟩
       obtain ⟨l, hl, hl2⟩ := hlist len (Nat.le_refl _)
       refine ⟨l, ⟨by show l.length <= _; omega, fun i x hx => ?_⟩, fun ρ => ⟨some ad, len, cap, ⟨by simp, rfl⟩, by show (len : Int) = (l.length : Int); omega, hlc, hcm, fun id h => (by cases h), fun hpos => ?_⟩⟩
       · have hx : l[i]? = some x := hx
         obtain ⟨v, q1, q2, _⟩ := hl2 i (by have := (List.getElem?_eq_some_iff.1 hx).1; omega)
         rw [hx] at q1; cases q1; exact q2
       · obtain ⟨v0, _, _, c0, l0, q0, _⟩ := hl2 0 hpos
         have hspot : ad.spot = none := by
           have := q0 0 h3
           rw [List.getElem?_eq_getElem (by omega)] at this
           have e : (ad.add (0 * esz)).add 0 = ad := by simp [Addr.add]
           rw [e] at this
           unfold World.cell? at this
           split at this
           · split at this
             · cases this
             · rename_i hs; simpa using hs
           · cases this
         have had : ad = ⟨ad.block, ad.off, none⟩ := by cases ad; simp at hspot; subst hspot; rfl
         refine ⟨ad.block, ad.off, by rw [<- had], fun j hj => ?_⟩
         obtain ⟨v, q1, q2, c, q3, q4, q5⟩ := hl2 j hj
         refine ⟨c, q3, ?_, fun q hq => ?_⟩
         · have e : List.getD (α := a.val) l ((j : Nat) : Int).toNat a.dflt = v := by
             rw [Int.toNat_natCast, List.getD_eq_getElem?_getD, q1]; rfl
           have := q5 noNames
           rw [<- e] at this
           exact this
         · rw [<- q4 q hq]
           have e : (ad.add (j * esz)).add q = ⟨ad.block, ad.off + j * esz + q, none⟩ := by
             rw [had]; unfold Addr.add; by_cases e1 : j * esz = 0 <;> by_cases e2 : q = 0 <;> simp [e1, e2]
           rw [e]; rfl
 | fn f => intro x hT; cases x <;> exact hT.elim
 | eptr esz a ih => intro x hT; cases x <;> exact hT.elim
 | fnv f a ih => intro x hT; cases x <;> exact hT.elim
end
section
open Go.ChangeShapes Go.WideShapes Go.RowKit
variable {H : Type} {enc : TypeId × Value -> H}
def argsRowed (P : Program) (ts : List TypeId) : Bool := ts.all fun t => P.readableRec t && decide (t < P.types.size)
theorem trodAll_stays (hl : laidOutB P = true) {W W' : World} (hb : Below W.heap.size W W') {sp' : Nat -> Bool} : ∀ {ts : List TypeId} {vs : List Value} {ds : List (DataW H)} {ps : List MemPlace}, argsRowed P ts = true ->
  DataW.TrodAll enc P W 0 (fun _ => true) true ts vs ds ps -> (∀ p ∈ ps, p.block < W.heap.size) -> (∀ p ∈ ps, sp' p.block = true) -> DataW.TrodAll enc P W' 0 sp' true ts vs ds ps
 | [], vs, ds, ps, _, h, _, _ => by
   obtain ⟨rfl, rfl, rfl⟩ := trodAll_nil h
   exact rfl
 | t :: ts, vs, ds, ps, ha, h, hlt, hsp => by
   obtain ⟨v, vs1, d, ds1, a, b, rfl, rfl, rfl, h1, h2⟩ := trodAll_cons h
   simp only [argsRowed, List.all_cons, Bool.and_eq_true, decide_eq_true_eq] at ha
   refine ⟨a, b, WideElems.Trod_stays hl ha.1.1 ha.1.2 h1 (fun p hp => hb.same (hlt p (List.mem_append_left _ hp))) (fun p hp => hsp p (List.mem_append_left _ hp)), ?_, rfl⟩
   exact trodAll_stays hl hb (by simpa [argsRowed] using ha.2) h2 (fun p hp => hlt p (List.mem_append_right _ hp)) (fun p hp => hsp p (List.mem_append_right _ hp))
theorem law_post {f : Func} {s : ChangeSpec} {apart fresh handsOn again : Bool} {W W' : World} {args : Array Value} {ds gs : List (DataW H)} {before : List MemPlace}
  (hW : DataW.Whole enc P f.params.toList s.vars apart W args.toList ds gs before) (hv : s.vars = []) (hl : laidOutB P = true) (ha : argsRowed P f.params.toList = true)
  (hs : s.fn H ds = { results := [.lit (.bool true)], args := ds }) {tb : TypeId} (hr : f.resultTypes = #[tb]) (hb : P.underlying tb = some .bool) (hB : Below W.heap.size W W') :
  s.post enc P f apart fresh handsOn again W args (.bool true) W' := by
 have hW' := hW
 obtain ⟨p, q, hA, hV, rfl, hz, hn⟩ := hW
 rw [hv] at hV
 obtain ⟨rfl, rfl⟩ := trodVars_none hV
 have hs : s.fn H (ds ++ []) = { results := [.lit (.bool true)], args := ds } := by rw [List.append_nil]; exact hs
 have hlt : ∀ x ∈ p, x.block < W.heap.size := fun x hx => hW'.lt x (by simpa using hx)
 have hargs : ∀ sp : Nat -> Bool, (∀ x ∈ p, sp x.block = true) -> DataW.TrodAll enc P W' 0 sp true f.params.toList args.toList ds p := fun sp hsp => trodAll_stays hl hB ha hA hlt hsp
 have hres : ∀ (b : Nat) (sp : Nat -> Bool) (hd : Bool), DataW.TrodAll enc P W' b sp hd f.resultTypes.toList ((Value.bool true).resultList f.resultTypes.size) [.lit (.bool true)] [] := fun b sp hd => by
  rw [hr]; exact trodAll_cons_mk (shut_bool hb _) trodAll_mk0
 have hvars : ∀ sp : Nat -> Bool, DataW.TrodVars enc P W' sp s.vars ([] : List (DataW H)) [] := fun sp => by rw [hv]; exact rfl
 refine ⟨ds, [], p ++ [], [], p, [], hW', by rw [hs]; exact hres _ _ _, by rw [hs]; exact hargs _ (fun x hx => by simpa using hlt x hx), by rw [hs]; exact hvars _, World.keptBut_mono (fun x hx => ⟨hx, .inr (by simpa using hx)⟩) (hB.frame _), fun _ => ?_⟩
 refine ⟨ok_one hr rfl (okWide_bool_mk hb _), _, _, ([] ++ p) ++ [], ⟨[] ++ p, [], trodAll_append (hargs _ (fun _ _ => rfl)) (hres _ _ _), hvars _, rfl, ?_, ?_⟩, ?_⟩
 ·intro b off hp
  rw [hB.frozen (hlt _ (by simpa using hp))]
  exact hz b off (by simpa using hp)
 ·intro hap
  simpa using hn hap
 ·intro x hx _
  simpa using hx
theorem law_calls {f : Nat} {args : PV} {W : World} {vs : List Value} (hp : PFun P G f args .tt) (hG : GOK G (memOf W)) (hr : rel (memOf W) args noNames .vals vs) :
  Calls P f vs.toArray W fun e W' => e = .returned (.bool true) /\ Below W.heap.size W W' := by
 have hI : Inv (memOf W) noNames none0 W := ⟨fun b i v h => h, fun id o h => (by cases h), fun id id' o o' h => (by cases h), fun id id' o o' h => (by cases h), fun b o h => ⟨h, fun ⟨_, _, h, _⟩ => (by cases h)⟩⟩
 refine (hp.2 _ _ _ hG hI hr).mono ?_
 rintro e W' ⟨M', ρ', v, g', rfl, h1, h2⟩
 obtain ⟨_, h2⟩ := h2
 have hv : v = .bool true := by simpa using h2
 subst hv
 refine ⟨rfl, h1.os, h1.tape, h1.output, h1.size, fun b hb => h1.heap b hb ?_⟩
 rintro ⟨id, o, ho, _⟩
 cases ho
end
end Go.Abs
namespace Go.Abs
variable {P : Program}
def Sh.leafT : Sh -> Bool
 | .int _ => true
 | .bool => true
 | .str => true
 | .slice _ _ => true
 | _ => false
theorem read_leaf {W : World} {H : Type} {enc : TypeId × Value -> H} {a : Sh} (ha : a.leafT = true) {t : TypeId} (ts : TS P a (.inl t)) {v : Value} {fuel : Nat} {y : DataW H × List MemPlace}
  (hv : Value.okWide P W .any 0 t v) (h : DataW.trod enc P W 0 (fun _ => true) true fuel t v.cells.toList = some y) :
  ∃ x : a.val, a.okV x /\ rel (memOf W) (a.mk fun _ => x) noNames .val [v] := by
 obtain ⟨x, hx, hr⟩ := open_sh a _ ts fuel _ y h
 have hr := hr noNames
 have hv2 : v.cells.toList = [v] := by
  cases v with
  | agg cs =>
    exfalso
    unfold Value.okWide at hv
    cases a <;> simp only [Sh.leafT, Bool.false_eq_true] at ha
    case slice n b =>
      obtain ⟨e, hu, _⟩ := ts
      rw [hu] at hv
      have hv : Cell.okWide P W .any 0 t (.agg cs) := hv
      unfold Cell.okWide at hv
      rw [hu] at hv
      unfold Cell.ok at hv
      rw [hu] at hv
      cases hv
    all_goals
      have hu := ts
      unfold TS at hu
      rw [hu] at hv
      have hv : Cell.okWide P W .any 0 t (.agg cs) := hv
      unfold Cell.okWide at hv
      rw [hu] at hv
      unfold Cell.ok at hv
      rw [hu] at hv
      cases hv
  | _ => rfl
 rw [hv2] at hr
 refine ⟨x, hx, ?_⟩
 cases a <;> simp only [Sh.leafT, Bool.false_eq_true] at ha
 case slice n b =>
  obtain ⟨a, n, cap, ⟨_, e⟩, hrest⟩ := hr
  exact ⟨a, n, cap, ⟨by simp, e⟩, hrest⟩
 all_goals exact ⟨by simp, hr.2⟩
end Go.Abs
