/- A part of what the walks of this claim stand on. -/
import Derived.Calls
import Derived.Below
import Derived.Orders
import Derived.DeepKeys
import Derived.Deep.MidRow
import Derived.Shelf.Abstract
import Derived.CallsIn
set_option maxRecDepth 2000
set_option linter.unusedVariables false
set_option linter.unusedSimpArgs false
namespace Go.Abs
inductive Sh where
 | int (k : IntKind) | bool | str | arrI (k : IntKind) (n : Nat) | arrB (n : Nat) | arrS (n : Nat)
 | nil | cons (a b : Sh) | agg (a : Sh) | slice (esz : Nat) (a : Sh) | fn (f : Nat) | eptr (esz : Nat) (a : Sh) | fnv (f : Nat) (a : Sh)
def Sh.val : Sh -> Type
 | .int _ => Int
 | .bool => Bool
 | .str => ByteArray
 | .arrI _ _ => List Int
 | .arrB _ => List Bool
 | .arrS _ => List ByteArray
 | .nil => Unit
 | .cons a b => a.val × b.val
 | .agg a => a.val
 | .slice _ a => List a.val
 | .fn _ => Unit
 | .eptr _ a => a.val
 | .fnv _ a => a.val
def Sh.dflt : (a : Sh) -> a.val
 | .int _ => (0 : Int)
 | .bool => false
 | .str => ByteArray.empty
 | .arrI _ _ => ([] : List Int)
 | .arrB _ => ([] : List Bool)
 | .arrS _ => ([] : List ByteArray)
 | .nil => ()
 | .cons a b => (a.dflt, b.dflt)
 | .agg a => a.dflt
 | .slice _ a => ([] : List a.val)
 | .fn _ => ()
 | .eptr _ a => a.dflt
 | .fnv _ a => a.dflt
def Sh.flat : Sh -> Bool
 | .int _ | .bool | .str | .arrI _ _ | .arrB _ | .arrS _ | .nil => true
 | .cons a b => a.flat && b.flat
 | .agg a => a.flat
 | _ => false
def Sh.vcells : (a : Sh) -> a.val -> List Value
 | .int k, (x : Int) => [.int k x]
 | .bool, (x : Bool) => [.bool x]
 | .str, (x : ByteArray) => [.string x]
 | .arrI k _, (x : List Int) => x.map (.int k)
 | .arrB _, (x : List Bool) => x.map .bool
 | .arrS _, (x : List ByteArray) => x.map .string
 | .nil, _ => []
 | .cons a b, x => a.vcells x.1 ++ b.vcells x.2
 | .agg a, x => a.vcells x
 | _, _ => []
def Sh.good : (a : Sh) -> a.val -> Prop
 | .arrI _ n, (x : List Int) => x.length = n
 | .arrB n, (x : List Bool) => x.length = n
 | .arrS n, (x : List ByteArray) => x.length = n
 | .cons a b, x => a.good x.1 /\ b.good x.2
 | .agg a, x => a.good x
 | _, _ => True
def Sh.isWide : Sh -> Bool
 | .arrI _ _ | .arrB _ | .arrS _ | .agg _ => true
 | _ => false
def Sh.enc (a : Sh) (x : a.val) : Value := bif a.isWide then .agg (a.vcells x).toArray else match a.vcells x with
 | [v] => v
 | l => .agg l.toArray
structure MapOK (k v : Sh) (es : List MapEntry) (clock : Nat) (l : List (k.val × v.val)) : Prop where
 keys : es.map (·.key) = l.map fun x => k.enc x.1
 vals : es.map (·.val) = l.map fun x => v.enc x.2
 born : (es.map (·.born)).Nodup
 old : ∀ e ∈ es, e.born < clock
 good : ∀ x ∈ l, k.good x.1 /\ v.good x.2
 diff : (l.map (·.1)).Nodup
end Go.Abs
namespace Go.Abs
abbrev beqN (a b : Nat) : Bool := a == b
abbrev bltN (a b : Nat) : Bool := decide (a < b)
abbrev bleN (a b : Nat) : Bool := decide (a <= b)
inductive PV where
 | undef
 | tt
 | ff
 | bool (b : Unit -> Bool)
 | int (k : IntKind) (n : Unit -> Int)
 | str (s : Unit -> ByteArray)
 | nilp
 | ptr (id off : Nat)
 | ptri (id off : Nat) (idx : Unit -> Int)
 | eptr (esz : Nat) (len : Unit -> Int) (f : (Unit -> Int) -> PV) (i : Unit -> Int) (off : Nat)
 | eptri (esz : Nat) (len : Unit -> Int) (f : (Unit -> Int) -> PV) (i : Unit -> Int) (off : Nat) (idx : Unit -> Int)
 | slice (tok : Option Nat) (esz : Nat) (len : Unit -> Int) (f : (Unit -> Int) -> PV)
 | nils
 | map (id : Nat)
 | nilm
 | func (fn : Fn) (first captured : PV)
 | nilf
 | iface (t : TypeId) (v : PV)
 | nili
 | agg (l : PV)
 | arrI (k : IntKind) (n : Nat) (l : Unit -> List Int)
 | arrB (n : Nat) (l : Unit -> List Bool)
 | arrS (n : Nat) (l : Unit -> List ByteArray)
 | tuple (l : PV)
 | nil
 | cons (x r : PV)
 deriving Inhabited
structure Mem where
 cell : Nat -> Nat -> Option Value
 stat : Nat -> Option Obj
instance : CoeFun Mem (fun _ => Nat -> Nat -> Option Value) := ⟨Mem.cell⟩
structure Names where
 val : Nat -> Option Value
 K : Nat -> Prop
instance : CoeFun Names (fun _ => Nat -> Option Value) := ⟨Names.val⟩
def noNames : Names := ⟨fun _ => none, fun _ => False⟩
inductive Mode where
 | cells | val | vals
 deriving DecidableEq
def one (m : Mode) (vs : List Value) (v : Value) : Prop := m ≠ .vals /\ vs = [v]
def rel (M : Mem) : PV -> Names -> Mode -> List Value -> Prop
 | .undef, _, m, vs => m = .val /\ ∃ v, vs = [v]
 | .tt, _, m, vs => one m vs (.bool true)
 | .ff, _, m, vs => one m vs (.bool false)
 | .bool b, _, m, vs => one m vs (.bool (b ()))
 | .int k n, _, m, vs => one m vs (.int k (n ()))
 | .str s, _, m, vs => one m vs (.string (s ()))
 | .nilp, _, m, vs => one m vs (.pointer none)
 | .ptr id off, ρ, m, vs => ∃ b, ρ id = some (.pointer (some ⟨b, 0, none⟩)) /\ one m vs (.pointer (some ⟨b, off, none⟩))
 | .ptri id off idx, ρ, m, vs => ∃ b, ρ id = some (.pointer (some ⟨b, 0, none⟩)) /\ 0 <= idx () /\ one m vs (.pointer (some ⟨b, off + (idx ()).toNat, none⟩))
 | .eptr esz len f i off, _, m, vs => ∃ b base n : Nat, (n : Int) = len () /\ 0 <= i () /\ i () < len () /\
  (∀ j, j < n -> ∃ cs, cs.length = esz /\ rel M (f (fun _ => (j : Int))) noNames .cells cs /\ ∀ q, q < esz -> M b (base + j * esz + q) = cs[q]?) /\
  one m vs (.pointer (some ⟨b, base + (i ()).toNat * esz + off, none⟩))
 | .eptri esz len f i off idx, _, m, vs => ∃ b base n : Nat, (n : Int) = len () /\ 0 <= i () /\ i () < len () /\ 0 <= idx () /\
  (∀ j, j < n -> ∃ cs, cs.length = esz /\ rel M (f (fun _ => (j : Int))) noNames .cells cs /\ ∀ q, q < esz -> M b (base + j * esz + q) = cs[q]?) /\
  one m vs (.pointer (some ⟨b, base + (i ()).toNat * esz + off + (idx ()).toNat, none⟩))
 | .slice tok esz len f, ρ, m, vs => ∃ (a : Option Addr) (n cap : Nat), one m vs (.slice a n cap) /\ (n : Int) = len () /\ n <= cap /\ cap <= maxLen /\
  (∀ id, tok = some id -> ρ id = some (.slice a n cap)) /\
  (0 < n -> ∃ b base : Nat, a = some ⟨b, base, none⟩ /\
   ∀ j, j < n -> ∃ cs, cs.length = esz /\ rel M (f (fun _ => (j : Int))) noNames .cells cs /\ ∀ q, q < esz -> M b (base + j * esz + q) = cs[q]?)
 | .nils, _, m, vs => one m vs (.slice none 0 0)
 | .map id, ρ, m, vs => ∃ b, ρ id = some (.map (some b)) /\ one m vs (.map (some b))
 | .nilm, _, m, vs => one m vs (.map none)
 | .func fn first captured, ρ, m, vs => ∃ fs cs : List Value, one m vs (.func fn fs.toArray cs.toArray) /\ rel M first ρ .vals fs /\ rel M captured ρ .vals cs
 | .nilf, _, m, vs => one m vs .nilFunc
 | .iface t x, ρ, m, vs => ∃ v, one m vs (.iface t v) /\ rel M x ρ .val [v]
 | .nili, _, m, vs => one m vs .nilIface
 | .agg l, ρ, m, vs => (m = .cells /\ rel M l ρ .cells vs) \/ (m = .val /\ ∃ cs : List Value, vs = [.agg cs.toArray] /\ rel M l ρ .cells cs)
 | .arrI k n l, _, m, vs => (l ()).length = n /\ ((m = .cells /\ vs = (l ()).map (.int k)) \/ (m = .val /\ vs = [.agg ((l ()).map (.int k)).toArray]))
 | .arrB n l, _, m, vs => (l ()).length = n /\ ((m = .cells /\ vs = (l ()).map .bool) \/ (m = .val /\ vs = [.agg ((l ()).map .bool).toArray]))
 | .arrS n l, _, m, vs => (l ()).length = n /\ ((m = .cells /\ vs = (l ()).map .string) \/ (m = .val /\ vs = [.agg ((l ()).map .string).toArray]))
 | .tuple l, ρ, m, vs => m = .val /\ ∃ ws : List Value, vs = [.tuple ws.toArray] /\ rel M l ρ .vals ws
 | .nil, _, m, vs => m ≠ .val /\ vs = []
 | .cons x r, ρ, m, vs => (m = .cells /\ ∃ c d, vs = c ++ d /\ rel M x ρ .cells c /\ rel M r ρ .cells d) \/
  (m = .vals /\ ∃ v ws, vs = v :: ws /\ rel M x ρ .val [v] /\ rel M r ρ .vals ws)
def Mem.le (M M' : Mem) : Prop := (∀ b i v, M b i = some v -> M' b i = some v) /\ ∀ b o, M.stat b = some o -> M'.stat b = some o
def Names.le (ρ ρ' : Names) : Prop := ∀ i v, ρ i = some v -> ρ' i = some v
theorem Mem.le_refl (M : Mem) : M.le M := ⟨fun _ _ _ h => h, fun _ _ h => h⟩
theorem Mem.le_trans {M M' M'' : Mem} (h : M.le M') (k : M'.le M'') : M.le M'' := ⟨fun b i v hv => k.1 b i v (h.1 b i v hv), fun b o hv => k.2 b o (h.2 b o hv)⟩
theorem Names.le_refl (ρ : Names) : ρ.le ρ := fun _ _ h => h
theorem Names.le_trans {a b c : Names} (h : a.le b) (k : b.le c) : a.le c := fun i v hv => k i v (h i v hv)
def row (M : Mem) (b base esz n : Nat) (f : (Unit -> Int) -> PV) : Prop :=
 ∀ j, j < n -> ∃ cs, cs.length = esz /\ rel M (f (fun _ => (j : Int))) noNames .cells cs /\ ∀ q, q < esz -> M b (base + j * esz + q) = cs[q]?
theorem row_mono {M M' : Mem} (h : M.le M') {b base esz n : Nat} {f : (Unit -> Int) -> PV}
  (hr : ∀ j cs, rel M (f j) noNames .cells cs -> rel M' (f j) noNames .cells cs) (k : row M b base esz n f) : row M' b base esz n f := by
 intro j hj
 obtain ⟨cs, h1, h2, h3⟩ := k j hj
 refine ⟨cs, h1, hr _ _ h2, fun q hq => ?_⟩
 have h4 := h3 q hq
 rw [List.getElem?_eq_getElem (by omega)] at h4 ⊢
 exact h.1 _ _ _ h4
theorem rel_mono {M M' : Mem} (h : M.le M') : ∀ (pv : PV) {ρ ρ' : Names} (_ : ρ.le ρ') {m : Mode} {vs : List Value}, rel M pv ρ m vs -> rel M' pv ρ' m vs := by
 intro pv
 induction pv with
 | ptr id off => intro ρ ρ' hρ m vs ⟨b, h1, h2⟩; exact ⟨b, hρ _ _ h1, h2⟩
 | ptri id off idx => intro ρ ρ' hρ m vs ⟨b, h1, h2⟩; exact ⟨b, hρ _ _ h1, h2⟩
 | map id => intro ρ ρ' hρ m vs ⟨b, h1, h2⟩; exact ⟨b, hρ _ _ h1, h2⟩
 | eptr esz len f i off ih =>
   intro ρ ρ' hρ m vs ⟨b, base, n, h1, h2, h3, h4, h5⟩
   exact ⟨b, base, n, h1, h2, h3, row_mono h (fun j cs hr => ih j (Names.le_refl _) hr) h4, h5⟩
 | eptri esz len f i off idx ih =>
   intro ρ ρ' hρ m vs ⟨b, base, n, h1, h2, h3, h0, h4, h5⟩
   exact ⟨b, base, n, h1, h2, h3, h0, row_mono h (fun j cs hr => ih j (Names.le_refl _) hr) h4, h5⟩
 | slice tok esz len f ih =>
   intro ρ ρ' hρ m vs ⟨a, n, cap, h1, h2, h3, h4, h5, h6⟩
   refine ⟨a, n, cap, h1, h2, h3, h4, fun id hid => hρ _ _ (h5 id hid), fun hn => ?_⟩
   obtain ⟨b, base, e, hr⟩ := h6 hn
   exact ⟨b, base, e, row_mono h (fun j cs hr => ih j (Names.le_refl _) hr) hr⟩
 | func fn first captured ih1 ih2 =>
   intro ρ ρ' hρ m vs ⟨fs, cs, h1, h2, h3⟩
   exact ⟨fs, cs, h1, ih1 hρ h2, ih2 hρ h3⟩
 | iface t x ih => intro ρ ρ' hρ m vs ⟨v, h1, h2⟩; exact ⟨v, h1, ih hρ h2⟩
 | agg l ih =>
   intro ρ ρ' hρ m vs hx
   rcases hx with ⟨h1, h2⟩ | ⟨h1, cs, h2, h3⟩
   · exact .inl ⟨h1, ih hρ h2⟩
   · exact .inr ⟨h1, cs, h2, ih hρ h3⟩
 | tuple l ih => intro ρ ρ' hρ m vs ⟨h1, ws, h2, h3⟩; exact ⟨h1, ws, h2, ih hρ h3⟩
 | cons x r ih1 ih2 =>
   intro ρ ρ' hρ m vs hx
   rcases hx with ⟨h1, c, d, h2, h3, h4⟩ | ⟨h1, v, ws, h2, h3, h4⟩
   · exact .inl ⟨h1, c, d, h2, ih1 hρ h3, ih2 hρ h4⟩
   · exact .inr ⟨h1, v, ws, h2, ih1 hρ h3, ih2 hρ h4⟩
 | _ => intro ρ ρ' hρ m vs hx; exact hx
def PV.size : PV -> Nat
 | .undef => 0
 | .agg l => l.size
 | .arrI _ n _ => n
 | .arrB n _ => n
 | .arrS n _ => n
 | .tuple _ => 0
 | .nil => 0
 | .cons x r => x.size + r.size
 | _ => 1
theorem rel_size {M : Mem} : ∀ (pv : PV) {ρ : Names} {vs : List Value}, rel M pv ρ .cells vs -> vs.length = pv.size := by
 intro pv
 induction pv with
 | agg l ih =>
   intro ρ vs hx
   rcases hx with ⟨_, h2⟩ | ⟨h1, _⟩
   · exact ih h2
   · cases h1
 | cons x r ih1 ih2 =>
   intro ρ vs hx
   rcases hx with ⟨_, c, d, rfl, h3, h4⟩ | ⟨h1, _⟩
   · simp [PV.size, ih1 h3, ih2 h4]
   · cases h1
 | undef => intro ρ vs ⟨h, _⟩; cases h
 | tuple l ih => intro ρ vs ⟨h, _⟩; cases h
 | nil => intro ρ vs ⟨_, h⟩; simp [h, PV.size]
 | arrI k n l =>
   intro ρ vs ⟨h1, h2⟩
   rcases h2 with ⟨_, rfl⟩ | ⟨h, _⟩
   · simp [h1, PV.size]
   · cases h
 | arrB n l =>
   intro ρ vs ⟨h1, h2⟩
   rcases h2 with ⟨_, rfl⟩ | ⟨h, _⟩
   · simp [h1, PV.size]
   · cases h
 | arrS n l =>
   intro ρ vs ⟨h1, h2⟩
   rcases h2 with ⟨_, rfl⟩ | ⟨h, _⟩
   · simp [h1, PV.size]
   · cases h
 | ptr id off => intro ρ vs ⟨b, _, _, h⟩; simp [h, PV.size]
 | ptri id off idx => intro ρ vs ⟨b, _, _, _, h⟩; simp [h, PV.size]
 | map id => intro ρ vs ⟨b, _, _, h⟩; simp [h, PV.size]
 | eptr esz len f i off ih => intro ρ vs ⟨b, base, n, _, _, _, _, _, h⟩; simp [h, PV.size]
 | eptri esz len f i off idx ih => intro ρ vs ⟨b, base, n, _, _, _, _, _, _, h⟩; simp [h, PV.size]
 | slice tok esz len f ih => intro ρ vs ⟨a, n, cap, ⟨_, h⟩, _⟩; simp [h, PV.size]
 | func fn first captured ih1 ih2 => intro ρ vs ⟨fs, cs, ⟨_, h⟩, _⟩; simp [h, PV.size]
 | iface t x ih => intro ρ vs ⟨v, ⟨_, h⟩, _⟩; simp [h, PV.size]
 | _ => intro ρ vs ⟨_, h⟩; simp [h, PV.size]
def PV.wide : PV -> Bool
 | .agg _ | .arrI .. | .arrB .. | .arrS .. => true
 | _ => false
def PV.leaf : PV -> Bool
 | .undef | .agg _ | .arrI .. | .arrB .. | .arrS .. | .tuple _ | .nil | .cons .. => false
 | _ => true
theorem rel_leaf {M : Mem} {ρ : Names} {pv : PV} (hl : pv.leaf = true) {m : Mode} {vs : List Value} (h : rel M pv ρ m vs) :
  ∃ v, vs = [v] /\ m ≠ .vals /\ ∀ m', m' ≠ .vals -> rel M pv ρ m' [v] := by
 cases pv <;> simp only [PV.leaf, Bool.false_eq_true] at hl
 case ptr id off => obtain ⟨b, h1, h2, h3⟩ := h; exact ⟨_, h3, h2, fun m' hm => ⟨b, h1, hm, rfl⟩⟩
 case ptri id off idx => obtain ⟨b, h1, h0, h2, h3⟩ := h; exact ⟨_, h3, h2, fun m' hm => ⟨b, h1, h0, hm, rfl⟩⟩
 case map id => obtain ⟨b, h1, h2, h3⟩ := h; exact ⟨_, h3, h2, fun m' hm => ⟨b, h1, hm, rfl⟩⟩
 case eptr esz len f i off => obtain ⟨b, base, n, h1, h2, h3, h4, h5, h6⟩ := h; exact ⟨_, h6, h5, fun m' hm => ⟨b, base, n, h1, h2, h3, h4, hm, rfl⟩⟩
 case eptri esz len f i off idx => obtain ⟨b, base, n, h1, h2, h3, h0, h4, h5, h6⟩ := h; exact ⟨_, h6, h5, fun m' hm => ⟨b, base, n, h1, h2, h3, h0, h4, hm, rfl⟩⟩
 case slice tok esz len f => obtain ⟨a, n, cap, ⟨h1, h2⟩, h3⟩ := h; exact ⟨_, h2, h1, fun m' hm => ⟨a, n, cap, ⟨hm, rfl⟩, h3⟩⟩
 case func fn first captured => obtain ⟨fs, cs, ⟨h1, h2⟩, h3⟩ := h; exact ⟨_, h2, h1, fun m' hm => ⟨fs, cs, ⟨hm, rfl⟩, h3⟩⟩
 case iface t x => obtain ⟨v, ⟨h1, h2⟩, h3⟩ := h; exact ⟨_, h2, h1, fun m' hm => ⟨v, ⟨hm, rfl⟩, h3⟩⟩
 all_goals (obtain ⟨h1, h2⟩ := h; exact ⟨_, h2, h1, fun m' hm => ⟨hm, rfl⟩⟩)
theorem rel_wide {M : Mem} {ρ : Names} {pv : PV} (hl : pv.wide = true) {v : Value} (h : rel M pv ρ .val [v]) :
  ∃ cs : List Value, v = .agg cs.toArray /\ rel M pv ρ .cells cs := by
 cases pv <;> simp only [PV.wide, Bool.false_eq_true] at hl
 case agg l =>
  rcases h with ⟨h1, _⟩ | ⟨_, cs, h2, h3⟩
  ·cases h1
  ·exact ⟨cs, by simpa using h2, .inl ⟨rfl, h3⟩⟩
 all_goals
  obtain ⟨h1, h2⟩ := h
  rcases h2 with ⟨h2, _⟩ | ⟨_, h2⟩
  ·cases h2
  ·exact ⟨_, by simpa using h2, h1, .inl ⟨rfl, rfl⟩⟩
theorem wide_rel {M : Mem} {ρ : Names} {pv : PV} (hl : pv.wide = true) {cs : List Value} (h : rel M pv ρ .cells cs) : rel M pv ρ .val [.agg cs.toArray] := by
 cases pv <;> simp only [PV.wide, Bool.false_eq_true] at hl
 case agg l =>
  rcases h with ⟨_, h1⟩ | ⟨h1, _⟩
  ·exact .inr ⟨rfl, cs, rfl, h1⟩
  ·cases h1
 all_goals
  obtain ⟨h1, h2⟩ := h
  rcases h2 with ⟨_, h2⟩ | ⟨h2, _⟩
  ·exact ⟨h1, .inr ⟨rfl, by rw [h2]⟩⟩
  ·cases h2
theorem rel_cells {M : Mem} {ρ : Names} {pv : PV} (hl : pv.wide = true \/ pv.leaf = true) {v : Value} (h : rel M pv ρ .val [v]) : rel M pv ρ .cells v.cells.toList := by
 rcases hl with hl | hl
 ·obtain ⟨cs, rfl, h1⟩ := rel_wide hl h
  simpa [Value.cells] using h1
 ·obtain ⟨v', h1, _, h2⟩ := rel_leaf hl h
  obtain rfl : v = v' := by simpa using h1
  have h3 := h2 .cells (by simp)
  have : v.cells.toList = [v] := by
   cases pv <;> simp only [PV.leaf, Bool.false_eq_true] at hl <;>
    first
     | (obtain ⟨_, h2⟩ := h3; cases h2; rfl)
     | (obtain ⟨_, _, _, h2⟩ := h3; cases h2; rfl)
     | (obtain ⟨_, _, _, _, h2⟩ := h3; cases h2; rfl)
     | (obtain ⟨_, ⟨_, h2⟩, _⟩ := h3; cases h2; rfl)
     | (obtain ⟨_, _, ⟨_, h2⟩, _⟩ := h3; cases h2; rfl)
     | (obtain ⟨_, _, _, ⟨_, h2⟩, _⟩ := h3; cases h2; rfl)
     | (obtain ⟨_, _, _, _, _, _, _, _, h2⟩ := h3; cases h2; rfl)
     | (obtain ⟨_, _, _, _, _, _, _, _, _, h2⟩ := h3; cases h2; rfl)
  rw [this]; exact h3
end Go.Abs
namespace Go.Abs
structure Yd where
 l : Nat
 L : Int
 x : Int -> PV
 st : Int -> Bool
 J : Bool -> Int -> (Nat -> Prop) -> Mem -> World -> Prop
 keep : ∀ {s : Bool} {i : Int} {K : Nat -> Prop} {M : Mem} {w : World} {M' : Mem} {w' : World}, J s i K M w -> M.le M' -> (∀ b, K b -> w'.heap[b]? = w.heap[b]? /\ ∀ j, M' b j ≠ none -> M b j ≠ none) -> J s i K M' w'
 lt : ∀ {s : Bool} {i : Int} {K : Nat -> Prop} {M : Mem} {w : World} {b : Nat}, J s i K M w -> K b -> b < w.heap.size
inductive SObj where
 | var (v : PV)
 | map (k v : Sh) (l : Unit -> List (k.val × v.val))
 | own (esz e : Nat)
 | raw (o : Obj)
 | ghost (Y : Yd) (s : Unit -> Bool) (i : Unit -> Int)
def SObj.isG : SObj -> Bool
 | .ghost .. => true
 | _ => false
abbrev Sto := Nat -> Option SObj
def nblk : Value -> Option Nat
 | .pointer (some a) => some a.block
 | .map (some b) => some b
 | .slice (some a) _ _ => some a.block
 | _ => none
def at? (ρ : Names) (id : Nat) : Option Nat := (ρ id).bind nblk
def has (ρ : Names) (id : Nat) : SObj -> Nat -> Prop
 | .ghost .., b => ρ.K b
 | _, b => at? ρ id = some b
def hasV (ρ : Names) (v : Value) : SObj -> Nat -> Prop
 | .ghost .., b => ρ.K b
 | _, b => nblk v = some b
theorem has_V {ρ : Names} {id : Nat} {v : Value} (h : ρ id = some v) (o : SObj) (b : Nat) : has ρ id o b ↔ hasV ρ v o b := by
 cases o <;> simp [has, hasV, at?, h]
theorem has_at {ρ : Names} {id : Nat} {o : SObj} (h : o.isG = false) (b : Nat) : has ρ id o b ↔ at? ρ id = some b := by
 cases o <;> first | exact Iff.rfl | cases h
theorem hasV_at {ρ : Names} {v : Value} {o : SObj} (h : o.isG = false) (b : Nat) : hasV ρ v o b ↔ nblk v = some b := by
 cases o <;> first | exact Iff.rfl | cases h
def SObj.ok (M : Mem) (ρ : Names) (w : World) (v : Value) : SObj -> Prop
 | .var pv => ∃ b c t, v = .pointer (some ⟨b, 0, none⟩) /\ w.heap[b]? = some (.cells c t (0, 0)) /\ rel M pv ρ .cells c.toList /\ ∀ i, M b i = none
 | .map k e l => ∃ b ents clock, v = .map (some b) /\ w.heap[b]? = some (.map ents clock) /\ MapOK k e ents.toList clock (l ())
 | .own esz e => v = .slice none 0 0 \/ ∃ b n cap c, v = .slice (some ⟨b, 0, none⟩) n cap /\ n <= cap /\ cap <= maxLen /\
  w.heap[b]? = some (.cells c e (0, 0)) /\ c.size = cap * esz /\ ∀ i, M b i ≠ none -> i < n * esz
 | .raw o => ∃ b, v = .pointer (some ⟨b, 0, none⟩) /\ w.heap[b]? = some o /\ (∀ c t f, o ≠ .cells c t f)
 | .ghost Y s i => Y.J (s ()) (i ()) ρ.K M w
def occ (ρ : Names) (g : Sto) (b : Nat) : Prop := ∃ id o, g id = some o /\ has ρ id o b
structure Inv (M : Mem) (ρ : Names) (g : Sto) (w : World) : Prop where
 mem : ∀ b i v, M b i = some v -> w.cell? ⟨b, i, none⟩ = some v
 obj : ∀ id o, g id = some o -> ∃ v, ρ id = some v /\ o.ok M ρ w v
 apart : ∀ id id' o o', g id = some o -> g id' = some o' -> id ≠ id' -> ∀ b, has ρ id o b -> ¬ has ρ id' o' b
 one : ∀ id id' o o', g id = some o -> g id' = some o' -> o.isG = true -> o'.isG = true -> id = id'
 stat : ∀ b o, M.stat b = some o -> w.heap[b]? = some o /\ ¬ occ ρ g b
def noG (g : Sto) : Prop := ∀ id o, g id = some o -> o.isG = false
structure Adv (M : Mem) (ρ : Names) (g : Sto) (w : World) (n n' : Nat) (M' : Mem) (ρ' : Names) (g' : Sto) (w' : World) : Prop where
 mem : M.le M'
 names : ρ.le ρ'
 fresh : ∀ id, ρ id = none -> ρ' id ≠ none -> n <= id /\ id < n'
 os : w'.os = w.os
 tape : w'.tape = w.tape
 output : w'.output = w.output
 size : w.heap.size <= w'.heap.size
 heap : ∀ b, b < w.heap.size -> ¬ occ ρ g b -> w'.heap[b]? = w.heap[b]?
 blks : ∀ b, occ ρ' g' b -> w.heap.size <= b \/ occ ρ g b
 mnew : ∀ b i, M' b i ≠ none -> M b i = none -> w.heap.size <= b \/ occ ρ g b
 kk : noG g -> ρ'.K = ρ.K /\ noG g'
 mst : M'.stat = M.stat
theorem Adv.refl (M : Mem) (ρ : Names) (g : Sto) (w : World) (n : Nat) : Adv M ρ g w n n M ρ g w :=
 ⟨Mem.le_refl _, Names.le_refl _, fun _ h h' => absurd h h', rfl, rfl, rfl, Nat.le_refl _, fun _ _ _ => rfl, fun _ h => .inr h, fun _ _ h h' => absurd h' h, fun h => ⟨rfl, h⟩, rfl⟩
theorem Adv.trans {M ρ g w n n1 M1 ρ1 g1 w1 n2 M2 ρ2 g2 w2} (h : Adv M ρ g w n n1 M1 ρ1 g1 w1) (k : Adv M1 ρ1 g1 w1 n1 n2 M2 ρ2 g2 w2) (h1 : n <= n1) (h2 : n1 <= n2) :
  Adv M ρ g w n n2 M2 ρ2 g2 w2 where
 mem := Mem.le_trans h.mem k.mem
 names := Names.le_trans h.names k.names
 fresh := fun id h0 h2' => by
  by_cases h' : ρ1 id = none
  ·have := k.fresh id h' h2'; omega
  ·have := h.fresh id h0 h'; omega
 os := k.os.trans h.os
 tape := k.tape.trans h.tape
 output := k.output.trans h.output
 size := Nat.le_trans h.size k.size
 heap := fun b hb ho => by
  rw [k.heap b (by have := h.size; omega) (fun ho1 => by rcases h.blks b ho1 with h' | h'; omega; exact ho h'), h.heap b hb ho]
 blks := fun b ho => by
  rcases k.blks b ho with h' | h'
  ·exact .inl (by have := h.size; omega)
  ·exact h.blks b h'
 mnew := fun b i h2 h0 => by
  by_cases h' : M1 b i = none
  ·rcases k.mnew b i h2 h' with h'' | h''
   ·exact .inl (by have := h.size; omega)
   ·exact h.blks b h''
  ·exact h.mnew b i h' h0
 kk := fun hg => ⟨(k.kk (h.kk hg).2).1.trans (h.kk hg).1, (k.kk (h.kk hg).2).2⟩
 mst := k.mst.trans h.mst
theorem cell_of_heap {w w' : World} {b : Nat} (h : w'.heap[b]? = w.heap[b]?) (i : Nat) : w'.cell? ⟨b, i, none⟩ = w.cell? ⟨b, i, none⟩ := by
 simp only [World.cell?, h]
theorem lt_of_get {α : Type} {a : Array α} {i : Nat} {x : α} (h : a[i]? = some x) : i < a.size := (Array.getElem?_eq_some_iff.1 h).1
theorem SObj.ok_lt {M ρ w v} {o : SObj} (h : o.ok M ρ w v) {b : Nat} (hb : hasV ρ v o b) : b < w.heap.size := by
 cases o with
 | var pv => obtain ⟨b', c, t, rfl, h1, _⟩ := h; cases hb; exact lt_of_get h1
 | map k e es => obtain ⟨b', ents, clock, rfl, h1, _⟩ := h; cases hb; exact lt_of_get h1
 | own esz e =>
   rcases h with rfl | ⟨b', n, cap, c, rfl, _, _, h1, _⟩
   · cases hb
   · cases hb; exact lt_of_get h1
 | raw o => obtain ⟨b', rfl, h1, _⟩ := h; cases hb; exact lt_of_get h1
 | ghost Y s i => exact Y.lt h hb
theorem SObj.ok_keep {M ρ w M' ρ' w' v} {o : SObj} (h : o.ok M ρ w v) (hM : M.le M') (hρ : ρ.le ρ') (hK : o.isG = true -> ρ'.K = ρ.K)
  (hb : ∀ b, hasV ρ v o b -> w'.heap[b]? = w.heap[b]? /\ ∀ i, M' b i ≠ none -> M b i ≠ none) : o.ok M' ρ' w' v := by
 cases o with
 | var pv =>
   obtain ⟨b, c, t, rfl, h1, h2, h3⟩ := h
   obtain ⟨k1, k2⟩ := hb b rfl
   refine ⟨b, c, t, rfl, k1.trans h1, rel_mono hM _ hρ h2, fun i => ?_⟩
   by_cases hi : M' b i = none
   · exact hi
   · exact absurd (h3 i) (k2 i hi)
 | map k e es =>
   obtain ⟨b, ents, clock, rfl, h1, h2⟩ := h
   exact ⟨b, ents, clock, rfl, (hb b rfl).1.trans h1, h2⟩
 | own esz e =>
   rcases h with rfl | ⟨b, n, cap, c, rfl, h1, h2, h3, h4, h5⟩
   · exact .inl rfl
   · obtain ⟨k1, k2⟩ := hb b rfl
     exact .inr ⟨b, n, cap, c, rfl, h1, h2, k1.trans h3, h4, fun i hi => h5 i (k2 i hi)⟩
 | raw o =>
   obtain ⟨b, rfl, h1, h2⟩ := h
   exact ⟨b, rfl, (hb b rfl).1.trans h1, h2⟩
 | ghost Y s i =>
   show Y.J (s ()) (i ()) ρ'.K M' w'
   rw [hK rfl]
   exact Y.keep h hM hb
def only (g : Sto) (F : List Nat) : Sto := fun id => if id ∈ F then g id else none
theorem only_some {g : Sto} {F : List Nat} {id : Nat} {o : SObj} (h : only g F id = some o) : id ∈ F /\ g id = some o := by
 unfold only at h; split at h
 ·exact ⟨‹_›, h⟩
 ·cases h
theorem stat_keep {M : Mem} {ρ : Names} {g : Sto} {w : World} {M' : Mem} {ρ' : Names} {g' : Sto} {w' : World} (hI : Inv M ρ g w) (hst : M'.stat = M.stat) (hheap : ∀ b, b < w.heap.size -> ¬ occ ρ g b -> w'.heap[b]? = w.heap[b]?) (hblks : ∀ b, occ ρ' g' b -> w.heap.size <= b \/ occ ρ g b) :
  ∀ b o, M'.stat b = some o -> w'.heap[b]? = some o /\ ¬ occ ρ' g' b := by
 intro b o h
 rw [hst] at h
 obtain ⟨h1, h2⟩ := hI.stat b o h
 have hlt := lt_of_get h1
 refine ⟨(hheap b hlt h2).trans h1, fun ho => ?_⟩
 rcases hblks b ho with h' | h'
 ·omega
 ·exact h2 h'
theorem Adv.stat {M ρ g w n n' M' ρ' g' w'} (hA : Adv M ρ g w n n' M' ρ' g' w') (hI : Inv M ρ g w) : ∀ b o, M'.stat b = some o -> w'.heap[b]? = some o /\ ¬ occ ρ' g' b := stat_keep hI hA.mst hA.heap hA.blks
theorem only_occ {ρ : Names} {g : Sto} {F : List Nat} {b : Nat} (h : occ ρ (only g F) b) : occ ρ g b := by
 obtain ⟨id, o, h1, h2⟩ := h
 exact ⟨id, o, (only_some h1).2, h2⟩
theorem only_noG {g : Sto} (h : noG g) (F : List Nat) : noG (only g F) := fun id o ho => h id o (only_some ho).2
theorem Inv.only {M ρ g w} (h : Inv M ρ g w) (F : List Nat) : Inv M ρ (only g F) w :=
 ⟨h.mem, fun id o ho => h.obj id o (only_some ho).2, fun id id' o o' ho ho' => h.apart id id' o o' (only_some ho).2 (only_some ho').2, fun id id' o o' ho ho' => h.one id id' o o' (only_some ho).2 (only_some ho').2, fun b o ho => ⟨(h.stat b o ho).1, fun hc => (h.stat b o ho).2 (only_occ hc)⟩⟩
def over (F : List Nat) (n n' : Nat) (g1 g : Sto) : Sto := fun id => if id ∈ F \/ (n <= id /\ id < n') then g1 id else g id
theorem frame {M ρ w g M' ρ' w' g1 n n'} {F : List Nat} (hI : Inv M ρ g w) (hA : Adv M ρ (only g F) w n n' M' ρ' g1 w') (hI1 : Inv M' ρ' g1 w')
  (hn : ∀ id, n <= id -> id < n' -> ρ id = none) :
  Inv M' ρ' (over F n n' g1 g) w' /\ Adv M ρ g w n n' M' ρ' (over F n n' g1 g) w' := by
 have hrest : ∀ id o, g id = some o -> id ∉ F -> ∀ b, has ρ id o b -> b < w.heap.size /\ ¬ occ ρ (Go.Abs.only g F) b := by
  intro id o ho hF b hb
  obtain ⟨v, hv, hok⟩ := hI.obj id o ho
  have hb' : hasV ρ v o b := (has_V hv o b).1 hb
  refine ⟨SObj.ok_lt (o := o) hok hb', fun ⟨id0, o0, h0, hb0⟩ => ?_⟩
  obtain ⟨hF0, hg0⟩ := only_some h0
  exact hI.apart id id0 o o0 ho hg0 (fun e => hF (e ▸ hF0)) b hb hb0
 have hocc : ∀ b, occ ρ (Go.Abs.only g F) b -> occ ρ g b := fun b ⟨id, o, h1, h2⟩ => ⟨id, o, (only_some h1).2, h2⟩
 have hgh : ∀ id o, g id = some o -> id ∉ F -> o.isG = true -> ρ'.K = ρ.K /\ noG g1 := by
  intro id o ho hF hg
  refine hA.kk fun id' o' ho' => ?_
  obtain ⟨h1, h2⟩ := only_some ho'
  cases hb : o'.isG with
  | false => rfl
  | true => exact absurd h1 (hI.one id id' o o' ho h2 hg hb ▸ hF)
 have hkeep : ∀ id o, g id = some o -> ¬ (id ∈ F \/ (n <= id /\ id < n')) -> ∃ v, ρ' id = some v /\ ρ id = some v /\ o.ok M' ρ' w' v := by
  intro id o ho hF
  obtain ⟨v, hv, hok⟩ := hI.obj id o ho
  refine ⟨v, hA.names _ _ hv, hv, SObj.ok_keep (o := o) hok hA.mem hA.names (fun hg => (hgh id o ho (fun h => hF (.inl h)) hg).1) fun b hb => ?_⟩
  obtain ⟨h1, h2⟩ := hrest id o ho (fun h => hF (.inl h)) b ((has_V hv o b).2 hb)
  refine ⟨hA.heap b h1 h2, fun i hi h0 => ?_⟩
  rcases hA.mnew b i hi h0 with h | h
  ·omega
  ·exact h2 h
 have hblk : ∀ id o, over F n n' g1 g id = some o -> ∀ b, has ρ' id o b -> (g1 id = some o /\ (id ∈ F \/ (n <= id /\ id < n'))) \/ (g id = some o /\ ¬ (id ∈ F \/ (n <= id /\ id < n')) /\ has ρ id o b) := by
  intro id o ho b hb
  unfold over at ho
  split at ho
  ·rename_i h; exact .inl ⟨ho, h⟩
  ·rename_i h
   obtain ⟨v, h1, h2, _⟩ := hkeep id o ho h
   refine .inr ⟨ho, h, ?_⟩
   rw [has_V h1] at hb
   rw [has_V h2]
   cases hG : o.isG with
   | false => rw [hasV_at hG] at hb ⊢; exact hb
   | true =>
     have := (hgh id o ho (fun x => h (.inl x)) hG).1
     cases o with
     | ghost Y s i => rwa [show hasV ρ' v (.ghost Y s i) b = ρ'.K b from rfl, this] at hb
     | _ => cases hG
 have hAdv : Adv M ρ g w n n' M' ρ' (over F n n' g1 g) w' := by
  refine ⟨hA.mem, hA.names, hA.fresh, hA.os, hA.tape, hA.output, hA.size, fun b hb ho => hA.heap b hb fun h => ho (hocc b h), fun b ⟨id, o, ho, hb⟩ => ?_, fun b i h1 h0 => ?_, fun hng => ?_, hA.mst⟩
  ·rcases hblk id o ho b hb with ⟨k1, k2⟩ | ⟨k1, k2, k3⟩
   ·rcases hA.blks b ⟨id, o, k1, hb⟩ with h | h
    ·exact .inl h
    ·exact .inr (hocc b h)
   ·exact .inr ⟨id, o, k1, k3⟩
  ·rcases hA.mnew b i h1 h0 with h | h
   ·exact .inl h
   ·exact .inr (hocc b h)
  ·obtain ⟨k1, k2⟩ := hA.kk (only_noG hng F)
   refine ⟨k1, fun id o ho => ?_⟩
   unfold over at ho
   split at ho
   ·exact k2 id o ho
   ·exact hng id o ho
 refine ⟨⟨hI1.mem, fun id o ho => ?_, fun id id' o o' ho ho' hne b hb hb' => ?_, fun id id' o o' ho ho' hg hg' => ?_, hAdv.stat hI⟩, hAdv⟩
 ·unfold over at ho
  split at ho
  ·exact hI1.obj id o ho
  ·rename_i h
   obtain ⟨v, h1, _, h2⟩ := hkeep id o ho h
   exact ⟨v, h1, h2⟩
 ·rcases hblk id o ho b hb with ⟨k1, k2⟩ | ⟨k1, k2, k3⟩ <;> rcases hblk id' o' ho' b hb' with ⟨l1, l2⟩ | ⟨l1, l2, l3⟩
  ·exact hI1.apart id id' o o' k1 l1 hne b hb hb'
  ·obtain ⟨h1, h2⟩ := hrest id' o' l1 (fun h => l2 (.inl h)) b l3
   rcases hA.blks b ⟨id, o, k1, hb⟩ with h | h
   ·omega
   ·exact h2 h
  ·obtain ⟨h1, h2⟩ := hrest id o k1 (fun h => k2 (.inl h)) b k3
   rcases hA.blks b ⟨id', o', l1, hb'⟩ with h | h
   ·omega
   ·exact h2 h
  ·exact hI.apart id id' o o' k1 l1 hne b k3 l3
 ·unfold over at ho ho'
  split at ho <;> split at ho'
  ·exact hI1.one id id' o o' ho ho' hg hg'
  ·rename_i h1 h2
   have := (hgh id' o' ho' (fun x => h2 (.inl x)) hg').2 id o ho
   rw [hg] at this; cases this
  ·rename_i h1 h2
   have := (hgh id o ho (fun x => h1 (.inl x)) hg).2 id' o' ho'
   rw [hg'] at this; cases this
  ·exact hI.one id id' o o' ho ho' hg hg'
end Go.Abs
namespace Go.Abs
inductive TD where
 | other | bool | int (k : IntKind) | str | ptr (e : Nat) | slice (e : Nat) | arr (n e : Nat) | struct (fs : List (Nat × Nat)) | map (k e : Nat) | func | iface
structure TI where
 d : TD
 size : Nat
 bytes : Nat
 zero : PV
def sameShape : PV -> PV -> Bool
 | .agg l, .agg l' => sameShape l l'
 | .arrI k n _, .arrI k' n' _ => decide (k = k') && beqN n n'
 | .arrB n _, .arrB n' _ => beqN n n'
 | .arrS n _, .arrS n' _ => beqN n n'
 | .nil, .nil => true
 | .cons x r, .cons x' r' => sameShape x x' && sameShape r r'
 | p, q => p.leaf && q.leaf
def PV.find (z : PV) : Nat -> PV -> Option PV
 | off, .agg l => bif beqN off 0 && sameShape (.agg l) z then some (.agg l) else PV.find z off l
 | off, .cons x r => bif bltN off x.size then PV.find z off x else PV.find z (off - x.size) r
 | off, .arrI k n l => bif beqN off 0 && sameShape (.arrI k n l) z then some (.arrI k n l) else bif z.leaf && bltN off n then some (.int k fun _ => (l ()).getD off 0) else none
 | off, .arrB n l => bif beqN off 0 && sameShape (.arrB n l) z then some (.arrB n l) else bif z.leaf && bltN off n then some (.bool fun _ => (l ()).getD off false) else none
 | off, .arrS n l => bif beqN off 0 && sameShape (.arrS n l) z then some (.arrS n l) else bif z.leaf && bltN off n then some (.str fun _ => (l ()).getD off ByteArray.empty) else none
 | off, p => bif beqN off 0 && z.leaf && p.leaf then some p else none
def PV.put (z : PV) : Nat -> PV -> Option PV
 | off, .agg l => bif beqN off 0 && sameShape (.agg l) z then some z else match PV.put z off l with
   | some l' => some (.agg l')
   | none => none
 | off, .cons x r => bif bltN off x.size then (match PV.put z off x with
  | some x' => some (.cons x' r)
  | none => none) else match PV.put z (off - x.size) r with
  | some r' => some (.cons x r')
  | none => none
 | off, .arrI k n l => bif beqN off 0 && sameShape (.arrI k n l) z then some z else match z with
   | .int k' v => bif decide (k = k') && bltN off n then some (.arrI k n fun _ => (l ()).set off (v ())) else none
   | _ => none
 | off, .arrB n l => bif beqN off 0 && sameShape (.arrB n l) z then some z else bif bltN off n then match z with
   | .bool v => some (.arrB n fun _ => (l ()).set off (v ()))
   | .tt => some (.arrB n fun _ => (l ()).set off true)
   | .ff => some (.arrB n fun _ => (l ()).set off false)
   | _ => none else none
 | off, .arrS n l => bif beqN off 0 && sameShape (.arrS n l) z then some z else bif bltN off n then match z with
   | .str v => some (.arrS n fun _ => (l ()).set off (v ()))
   | _ => none else none
 | off, p => bif beqN off 0 && z.leaf && p.leaf then some z else none
def PV.findI (idx : Unit -> Int) : Nat -> PV -> Option (Nat × PV)
 | off, .agg l => PV.findI idx off l
 | off, .cons x r => bif bltN off x.size then PV.findI idx off x else PV.findI idx (off - x.size) r
 | off, .arrI k n l => bif beqN off 0 then some (n, .int k fun _ => (l ()).getD (idx ()).toNat 0) else none
 | off, .arrB n l => bif beqN off 0 then some (n, .bool fun _ => (l ()).getD (idx ()).toNat false) else none
 | off, .arrS n l => bif beqN off 0 then some (n, .str fun _ => (l ()).getD (idx ()).toNat ByteArray.empty) else none
 | _, _ => none
def PV.putI (idx : Unit -> Int) (z : PV) : Nat -> PV -> Option (Nat × PV)
 | off, .agg l => match PV.putI idx z off l with
   | some (n, l') => some (n, .agg l')
   | none => none
 | off, .cons x r => bif bltN off x.size then (match PV.putI idx z off x with
  | some (n, x') => some (n, .cons x' r)
  | none => none) else match PV.putI idx z (off - x.size) r with
  | some (n, r') => some (n, .cons x r')
  | none => none
 | off, .arrI k n l => match z with
   | .int k' v => bif decide (k = k') && beqN off 0 then some (n, .arrI k n fun _ => (l ()).set (idx ()).toNat (v ())) else none
   | _ => none
 | off, .arrB n l => bif beqN off 0 then match z with
   | .bool v => some (n, .arrB n fun _ => (l ()).set (idx ()).toNat (v ()))
   | .tt => some (n, .arrB n fun _ => (l ()).set (idx ()).toNat true)
   | .ff => some (n, .arrB n fun _ => (l ()).set (idx ()).toNat false)
   | _ => none else none
 | off, .arrS n l => bif beqN off 0 then match z with
   | .str v => some (n, .arrS n fun _ => (l ()).set (idx ()).toNat (v ()))
   | _ => none else none
 | _, _ => none
def PV.nth : Nat -> PV -> Option PV
 | 0, .cons x _ => some x
 | i + 1, .cons _ r => PV.nth i r
 | _, _ => none
def PV.pure : PV -> Bool
 | .ptr _ _ | .ptri _ _ _ | .map _ => false
 | .func _ a b => a.pure && b.pure
 | .tuple l => l.pure
 | .iface _ v => v.pure
 | .agg l => l.pure
 | .cons x r => x.pure && r.pure
 | _ => true
def PV.strip : PV -> PV
 | .slice _ esz len f => .slice none esz len f
 | .agg l => .agg l.strip
 | .cons x r => .cons x.strip r.strip
 | .func fn a b => .func fn a.strip b.strip
 | .tuple l => .tuple l.strip
 | .iface t v => .iface t v.strip
 | p => p
def PV.ofList : List PV -> PV
 | [] => .nil
 | x :: l => .cons x (PV.ofList l)
abbrev Env := List (Nat × PV)
def Env.get : Env -> Nat -> PV
 | [], _ => .undef
 | (d, v) :: r, t => bif beqN d t then v else Env.get r t
def ofValue : Value -> PV
 | .bool b => bif b then .tt else .ff
 | .int k n => .int k fun _ => n
 | .string s => .str fun _ => s
 | .pointer none => .nilp
 | .slice none n c => bif beqN n 0 && beqN c 0 then .nils else .undef
 | .map none => .nilm
 | .nilFunc => .nilf
 | .nilIface => .nili
 | _ => .undef
def opnd (G : Nat -> PV) (A : Env) : Operand -> PV
 | .tmp t => A.get t
 | .const v => ofValue v
 | .global g => G g
 | .func f => .func (.func f) .nil .nil
def put (A : Env) : Option Nat -> PV -> Env
 | some d, v => (d, v) :: A
 | none, _ => A
abbrev Store := List (Nat × SObj)
def Store.get : Store -> Nat -> Option SObj
 | [], _ => none
 | (i, o) :: r, id => bif beqN i id then some o else Store.get r id
def Store.set : Store -> Nat -> Option SObj -> Store
 | [], id, o => match o with
   | some o => [(id, o)]
   | none => []
 | (i, x) :: r, id, o => bif beqN i id then (match o with
   | some o => (id, o) :: r
   | none => Store.set.drop1 r id) else (i, x) :: Store.set r id o
 where
 drop1 : Store -> Nat -> Store
 | [], _ => []
 | (i, x) :: r, id => bif beqN i id then drop1 r id else (i, x) :: drop1 r id
structure Eff where
 v : PV
 F : List Nat := []
 W : List (Nat × Option SObj) := []
 n : Nat := 0
 C : List (Unit -> Prop) := []
def asB : PV -> Option (Unit -> Bool)
 | .tt => some fun _ => true
 | .ff => some fun _ => false
 | .bool b => some b
 | _ => none
def bitAnd (k : IntKind) (x y : Int) : Int := k.wrap (BitVec.ofInt k.bits x &&& BitVec.ofInt k.bits y).toNat
def bitOr (k : IntKind) (x y : Int) : Int := k.wrap (BitVec.ofInt k.bits x ||| BitVec.ofInt k.bits y).toNat
def bitXor (k : IntKind) (x y : Int) : Int := k.wrap (BitVec.ofInt k.bits x ^^^ BitVec.ofInt k.bits y).toNat
def bitAndNot (k : IntKind) (x y : Int) : Int := k.wrap (BitVec.ofInt k.bits x &&& ~~~BitVec.ofInt k.bits y).toNat
def shl (k : IntKind) (x y : Int) : Int := k.wrap (x * 2 ^ min y.toNat k.bits)
def shr (k : IntKind) (x y : Int) : Int := x.fdiv (2 ^ min y.toNat k.bits)
def bless (a b : ByteArray) : Bool := Op.bytesLess a.toList b.toList
def byteAt (s : ByteArray) (i : Int) : Int := ((s.data.toList.getD i.toNat 0).toNat : Int)
def intOp (op : BinOp) (k : IntKind) (a b : Unit -> Int) : Option (PV × List (Unit -> Prop)) :=
 match op with
 | .add => some (.int k fun _ => k.wrap (a () + b ()), [])
 | .sub => some (.int k fun _ => k.wrap (a () - b ()), [])
 | .mul => some (.int k fun _ => k.wrap (a () * b ()), [])
 | .quo => some (.int k fun _ => k.wrap ((a ()).tdiv (b ())), [fun _ => b () ≠ 0])
 | .rem => some (.int k fun _ => (a ()).tmod (b ()), [fun _ => b () ≠ 0])
 | .and => some (.int k fun _ => bitAnd k (a ()) (b ()), [])
 | .or => some (.int k fun _ => bitOr k (a ()) (b ()), [])
 | .xor => some (.int k fun _ => bitXor k (a ()) (b ()), [])
 | .andNot => some (.int k fun _ => bitAndNot k (a ()) (b ()), [])
 | .shl => some (.int k fun _ => shl k (a ()) (b ()), [fun _ => 0 <= b ()])
 | .shr => some (.int k fun _ => shr k (a ()) (b ()), [fun _ => 0 <= b ()])
 | .eql => some (.bool fun _ => a () == b (), [])
 | .neq => some (.bool fun _ => a () != b (), [])
 | .lss => some (.bool fun _ => decide (a () < b ()), [])
 | .leq => some (.bool fun _ => decide (a () <= b ()), [])
 | .gtr => some (.bool fun _ => decide (a () > b ()), [])
 | .geq => some (.bool fun _ => decide (a () ≥ b ()), [])
def strOp (op : BinOp) (a b : Unit -> ByteArray) : Option (PV × List (Unit -> Prop)) :=
 match op with
 | .add => some (.str fun _ => a () ++ b (), [fun _ => (a ()).size + (b ()).size <= 9223372036854775807])
 | .eql => some (.bool fun _ => decide (a () = b ()), [])
 | .neq => some (.bool fun _ => decide (a () ≠ b ()), [])
 | .lss => some (.bool fun _ => bless (a ()) (b ()), [])
 | .leq => some (.bool fun _ => bless (a ()) (b ()) || decide (a () = b ()), [])
 | .gtr => some (.bool fun _ => !(bless (a ()) (b ()) || decide (a () = b ())), [])
 | .geq => some (.bool fun _ => !bless (a ()) (b ()), [])
 | _ => none
def eqT (T : Nat -> Option TI) : Nat -> Nat -> PV -> PV -> Option (Unit -> Bool)
 | 0, _, _, _ => none
 | d + 1, t, x, y => match T t with
   | some ⟨.bool, _, _, _⟩ => match asB x, asB y with
     | some a, some b => some fun _ => a () == b ()
     | _, _ => none
   | some ⟨.int _, _, _, _⟩ => match x, y with
     | .int k a, .int k' b => bif decide (k = k') then some fun _ => a () == b () else none
     | _, _ => none
   | some ⟨.str, _, _, _⟩ => match x, y with
     | .str a, .str b => some fun _ => decide (a () = b ())
     | _, _ => none
   | some ⟨.arr n el, _, _, _⟩ => match T el with
     | some ⟨.int k0, _, _, _⟩ => match x, y with
       | .arrI k m a, .arrI k' m' b => bif decide (k = k0) && decide (k' = k0) && beqN m n && beqN m' n then some fun _ => decide (a () = b ()) else none
       | _, _ => none
     | some ⟨.bool, _, _, _⟩ => match x, y with
       | .arrB m a, .arrB m' b => bif beqN m n && beqN m' n then some fun _ => decide (a () = b ()) else none
       | _, _ => none
     | some ⟨.str, _, _, _⟩ => match x, y with
       | .arrS m a, .arrS m' b => bif beqN m n && beqN m' n then some fun _ => decide (a () = b ()) else none
       | _, _ => none
     | _ => none
   | some ⟨.struct fs, _, _, _⟩ => match x, y with
     | .agg x, .agg y => fields d fs x y
     | _, _ => none
   | some ⟨.ptr _, _, _, _⟩ => match x, y with
     | .nilp, .nilp => some fun _ => true
     | .nilp, .ptr _ _ => some fun _ => false
     | .ptr _ _, .nilp => some fun _ => false
     | .nilp, .eptr _ _ _ _ _ => some fun _ => false
     | .eptr _ _ _ _ _, .nilp => some fun _ => false
     | _, _ => none
   | some ⟨.map _ _, _, _, _⟩ => match x, y with
     | .nilm, .nilm => some fun _ => true
     | .nilm, .map _ => some fun _ => false
     | .map _, .nilm => some fun _ => false
     | _, _ => none
   | some ⟨.func, _, _, _⟩ => match x, y with
     | .nilf, .nilf => some fun _ => true
     | .nilf, .func _ _ _ => some fun _ => false
     | .func _ _ _, .nilf => some fun _ => false
     | _, _ => none
   | _ => none
 where
 fields (d : Nat) : List (Nat × Nat) -> PV -> PV -> Option (Unit -> Bool)
 | [], _, _ => some fun _ => true
 | (o, ft) :: fs, x, y => match T ft with
   | some i => match PV.find i.zero o x, PV.find i.zero o y with
     | some a, some b => match eqT T d ft a b, fields d fs x y with
       | some p, some q => some fun _ => p () && q ()
       | _, _ => none
     | _, _ => none
   | none => none
def sureN : PV -> PV -> Option Bool
 | .nilp, .nilp => some true
 | .nilp, .ptr _ _ => some false
 | .ptr _ _, .nilp => some false
 | .nilp, .eptr _ _ _ _ _ => some false
 | .eptr _ _ _ _ _, .nilp => some false
 | .nilm, .nilm => some true
 | .nilm, .map _ => some false
 | .map _, .nilm => some false
 | .nilf, .nilf => some true
 | .nilf, .func _ _ _ => some false
 | .func _ _ _, .nilf => some false
 | _, _ => none
def flip (x y : PV) (o : Option (Unit -> Bool)) : Option PV :=
 match o with
 | some f => match sureN x y with
   | some b => some (bif b then .ff else .tt)
   | none => some (.bool fun _ => !f ())
 | none => none
def told (x y : PV) (o : Option (Unit -> Bool)) : Option PV :=
 match o with
 | some f => match sureN x y with
   | some b => some (bif b then .tt else .ff)
   | none => some (.bool f)
 | none => none
def binE (T : Nat -> Option TI) (op : BinOp) (t : Nat) (x y : PV) : Option (PV × List (Unit -> Prop)) :=
 match x, y with
 | .int k a, .int k' b => match op with
   | .shl => intOp .shl k a b
   | .shr => intOp .shr k a b
   | op => bif decide (k = k') then intOp op k a b else none
 | .str a, .str b => strOp op a b
 | x, y => match op with
   | .eql => match told x y (eqT T 8 t x y) with
     | some p => some (p, [])
     | none => none
   | .neq => match flip x y (eqT T 8 t x y) with
     | some p => some (p, [])
     | none => none
   | _ => none
def unE (op : UnOp) (x : PV) : Option PV :=
 match op, x with
 | .neg, .int k a => some (.int k fun _ => k.wrap (0 - a ()))
 | .xor, .int k a => some (.int k fun _ => bitXor k (if k.signed then -1 else k.max) (a ()))
 | .not, x => match x with
   | .tt => some .ff
   | .ff => some .tt
   | .bool b => some (.bool fun _ => !b ())
   | _ => none
 | _, _ => none
def buildE (pl : Nat -> Option (Nat × Nat)) (e : Operand -> PV) : List (Nat × Operand) -> PV -> Option PV
 | [], z => some z
 | (i, x) :: r, z => match pl i with
   | some (off, n) => bif beqN (e x).size n && ((e x).wide || (e x).leaf) then (match PV.put (e x) off z with
     | some z' => buildE pl e r z'
     | none => none) else none
   | none => none
def litIdx : Operand -> Option Nat
 | .const (.int _ n) => bif Int.decLt n 0 |>.decide then none else some n.toNat
 | _ => none
def lenE (T : Nat -> Option TI) (t : Nat) (x : PV) : Option PV :=
 match T t with
 | some ⟨.str, _, _, _⟩ => match x with
   | .str s => some (.int .i64 fun _ => ((s ()).size : Int))
   | _ => none
 | some ⟨.slice _, _, _, _⟩ => match x with
   | .slice _ _ len _ => some (.int .i64 len)
   | .nils => some (.int .i64 fun _ => 0)
   | _ => none
 | some ⟨.arr n _, _, _, _⟩ => some (.int .i64 fun _ => (n : Int))
 | _ => none
def maxE (x y : PV) : Option PV :=
 match x, y with
 | .int k a, .int k' b => bif decide (k = k') then some (.int k fun _ => if b () > a () then b () else a ()) else none
 | _, _ => none
def minE (x y : PV) : Option PV :=
 match x, y with
 | .int k a, .int k' b => bif decide (k = k') then some (.int k fun _ => if b () < a () then b () else a ()) else none
 | _, _ => none
def cutE (e : Operand -> PV) (lo hi : Option Operand) (len : Unit -> Int) : Option ((Unit -> Int) × (Unit -> Int) × List (Unit -> Prop)) :=
 match lo, hi with
 | none, none => some (fun _ => 0, len, [fun _ => 0 <= len ()])
 | some a, none => match e a with
   | .int _ x => some (x, len, [fun _ => 0 <= x () /\ x () <= len ()])
   | _ => none
 | none, some b => match e b with
   | .int _ y => some (fun _ => 0, y, [fun _ => 0 <= y () /\ y () <= len ()])
   | _ => none
 | some a, some b => match e a, e b with
   | .int _ x, .int _ y => some (x, y, [fun _ => 0 <= x () /\ x () <= y () /\ y () <= len ()])
   | _, _ => none
def builtE (T : Nat -> Option TI) (e : Operand -> PV) (b : Builtin) (args : List Operand) (ts : List TypeId) : Option PV :=
 match b, args, ts with
 | .len, [x], [t] => lenE T t (e x)
 | .max, [x, y], _ => maxE (e x) (e y)
 | .min, [x, y], _ => minE (e x) (e y)
 | _, _, _ => none
def placeE (T : Nat -> Option TI) (fs : List (Nat × Nat)) (i : Nat) : Option (Nat × Nat) :=
 match fs[i]? with
 | some (o, ft) => match T ft with
   | some j => some (o, j.size)
   | none => none
 | none => none
def pureE (T : Nat -> Option TI) (e : Operand -> PV) (op : Op) : Option (PV × List (Unit -> Prop)) :=
 match op with
 | .move x => some (e x, [])
 | .assign x => some (e x, [])
 | .pick c a b => match e c with
   | .tt => some (e a, [])
   | .ff => some (e b, [])
   | .bool f => match asB (e a), asB (e b) with
     | some p, some q => some (.bool fun _ => if f () then p () else q (), [])
     | _, _ => none
   | _ => none
 | .build t parts => match T t with
   | some ⟨.struct fs, _, _, z⟩ => match buildE (placeE T fs) e parts.toList z with
     | some v => some (v, [])
     | none => none
   | some ⟨.arr _ el, _, _, z⟩ => match T el with
     | some i => match buildE (fun j => some (j * i.size, i.size)) e parts.toList z with
       | some v => some (v, [])
       | none => none
     | none => none
   | _ => none
 | .field t x f => match T t with
   | some ⟨.struct fs, _, _, _⟩ => match fs[f]?, e x with
     | some (o, ft), .agg l => match T ft with
       | some i => match PV.find i.zero o l with
         | some v => some (v, [])
         | none => none
       | none => none
     | _, _ => none
   | _ => none
 | .index t x ix => match T t with
   | some ⟨.str, _, _, _⟩ => match e x, e ix with
     | .str s, .int _ i => some (.int .u8 fun _ => byteAt (s ()) (i ()), [fun _ => 0 <= i () /\ i () < (s ()).size])
     | _, _ => none
   | some ⟨.arr n el, _, _, _⟩ => match T el with
     | some i => match litIdx ix with
       | some c => bif bltN c n && (e x).wide then (match PV.find i.zero (c * i.size) (e x) with
         | some v => some (v, [])
         | none => none) else none
       | none => match e ix with
         | .int _ j => bif i.zero.leaf && (e x).wide then (match PV.findI j 0 (e x) with
           | some (m, v) => bif beqN m n then some (v, [fun _ => 0 <= j () /\ j () < n]) else none
           | none => none) else none
         | _ => none
     | none => none
   | _ => none
 | .binOp op t x y _ => binE T op t (e x) (e y)
 | .unOp op _ x => match unE op (e x) with
   | some v => some (v, [])
   | none => none
 | .convert s t x => match T s, T t, e x with
   | some ⟨.int _, _, _, _⟩, some ⟨.int k, _, _, _⟩, .int _ n => some (.int k fun _ => k.wrap (n ()), [])
   | some ⟨.str, _, _, _⟩, some ⟨.str, _, _, _⟩, .str s => some (.str s, [])
   | _, _, _ => none
 | .makeFunc fn first captured => some (.func fn (PV.ofList (first.toList.map e)) (PV.ofList (captured.toList.map e)), [])
 | .fieldAddr s x f => match T s with
   | some ⟨.struct fs, _, _, _⟩ => match fs[f]? with
     | some (o, ft) => match T ft with
       | some i => bif beqN i.size 0 then none else match e x with
         | .ptr id off => some (.ptr id (off + o), [])
         | .eptr esz len g j off => some (.eptr esz len g j (off + o), [])
         | _ => none
       | none => none
     | none => none
   | _ => none
 | .indexAddr t x ix => match T t with
   | some ⟨.arr n el, _, _, _⟩ => match T el with
     | some i => match litIdx ix with
       | some c => bif bltN c n then (match e x with
         | .ptr id off => some (.ptr id (off + c * i.size), [])
         | .eptr esz len g j off => some (.eptr esz len g j (off + c * i.size), [])
         | _ => none) else none
       | none => match e ix with
         | .int _ k => bif beqN i.size 1 then (match e x with
           | .ptr id off => some (.ptri id off k, [fun _ => 0 <= k () /\ k () < n])
           | .eptr esz len g j off => some (.eptri esz len g j off k, [fun _ => 0 <= k () /\ k () < n])
           | _ => none) else none
         | _ => none
     | none => none
   | some ⟨.slice el, _, _, _⟩ => match T el with
     | some i => match e x, e ix with
       | .slice _ esz len f, .int _ k => bif beqN esz i.size then some (.eptr esz len f k 0, [fun _ => 0 <= k () /\ k () < len ()]) else none
       | _, _ => none
     | none => none
   | _ => none
 | .slice t x lo hi none => match T t with
   | some ⟨.str, _, _, _⟩ => match e x with
     | .str s => match cutE e lo hi (fun _ => ((s ()).size : Int)) with
       | some (a, b, C) => some (.str fun _ => (s ()).extract (a ()).toNat (b ()).toNat, C)
       | none => none
     | _ => none
   | some ⟨.slice el, _, _, _⟩ => match T el with
     | some i => match e x with
       | .slice _ esz len f => bif beqN esz i.size then (match cutE e lo hi len with
         | some (a, b, C) => some (.slice none esz (fun _ => b () - a ()) (fun j => f fun _ => a () + j ()), C)
         | none => none) else none
       | _ => none
     | none => none
   | _ => none
 | .extract x i => match e x with
   | .tuple l => match PV.nth i l with
     | some v => some (v, [])
     | none => none
   | _ => none
 | .nilCheck x => match e x with
   | .ptr id off => some (.ptr id off, [])
   | .ptri id off j => some (.ptri id off j, [])
   | .eptr esz len g j off => some (.eptr esz len g j off, [])
   | .eptri esz len g j off q => some (.eptri esz len g j off q, [])
   | .map id => some (.map id, [])
   | .slice tok esz len f => some (.slice tok esz len f, [])
   | _ => none
 | .makeInterface t x => match T t with
   | some ⟨.iface, _, _, _⟩ => none
   | some ⟨.other, _, _, _⟩ => none
   | some _ => some (.iface t (e x), [])
   | none => none
 | .call ⟨.builtin b, args, ts⟩ => match builtE T e b args.toList ts.toList with
   | some v => some (v, [])
   | none => none
 | _ => none
def loadE (T : Nat -> Option TI) (g : Nat -> Option SObj) (t : Nat) (p : PV) : Option (PV × List Nat × List (Unit -> Prop)) :=
 match T t with
 | some i => match p with
   | .ptr id off => match g id with
     | some (.var pv) => match PV.find i.zero off pv with
       | some v => some (v, [id], [])
       | none => none
     | _ => none
   | .ptri id off j => match g id with
     | some (.var pv) => match PV.findI j off pv with
       | some (n, v) => bif i.zero.leaf then some (v, [id], [fun _ => 0 <= j () /\ j () < n]) else none
       | none => none
     | _ => none
   | .eptr _ _ f j off => match PV.find i.zero off (f j) with
     | some v => some (v, [], [])
     | none => none
   | .eptri _ _ f j off q => match PV.findI q off (f j) with
     | some (n, v) => bif i.zero.leaf then some (v, [], [fun _ => 0 <= q () /\ q () < n]) else none
     | none => none
   | _ => none
 | none => none
def oneRow (esz : Nat) (v : PV) : PV := .slice none esz (fun _ => 1) (fun _ => v)
def opE (T : Nat -> Option TI) (e : Operand -> PV) (g : Nat -> Option SObj) (n : Nat) (op : Op) : Option Eff :=
 match op with
 | .alloc t => match T t with
   | some i => some { v := .ptr n 0, W := [(n, some (.var i.zero))], n := n + 1 }
   | none => none
 | .box _ x => bif (e x).wide || (e x).leaf then some { v := .ptr n 0, W := [(n, some (.var (e x)))], n := n + 1 } else none
 | .load t a => match loadE T g t (e a) with
   | some (v, F, C) => some { v, F, n, C }
   | none => none
 | .store t a x => match T t with
   | some i => bif sameShape (e x) i.zero then (match e a with
     | .ptr id off => match g id with
       | some (.var pv) => match PV.put (e x) off pv with
         | some pv' => some { v := .undef, F := [id], W := [(id, some (.var pv'))], n }
         | none => none
       | _ => none
     | .ptri id off j => match g id with
       | some (.var pv) => match PV.putI j (e x) off pv with
         | some (m, pv') => some { v := .undef, F := [id], W := [(id, some (.var pv'))], n, C := [fun _ => 0 <= j () /\ j () < m] }
         | none => none
       | _ => none
     | _ => none) else none
   | none => none
 | .buildSlice t 1 parts => match T t, parts.toList with
   | some ⟨.slice el, _, _, _⟩, [(0, x)] => match T el with
     | some i => bif sameShape (e x) i.zero && (e x).pure && bltN 0 i.size && bleN i.size 16777216 then some { v := oneRow i.size (e x).strip, n } else none
     | none => none
   | _, _ => none
 | op => match pureE T e op with
   | some (v, C) => some { v, n, C }
   | none => none
inductive It where
 | code (c : Code)
 | ops (draw : Bool) (all : Array Oper) (i : Nat) (log : List (List Nat × List Nat))
 | inBlock (id : Nat)
 | inScope (c : Code)
 | inLoop (c : Code)
 | begin
 | done (v : PV)
structure Cfg where
 k : List It
 A : Env
 S : Store
 n : Nat
def exitK (id : Nat) : List It -> Option (List It)
 | [] => none
 | .inBlock i :: k => bif beqN i id then some k else exitK id k
 | _ :: k => exitK id k
def setAll : Store -> List (Nat × Option SObj) -> Store
 | S, [] => S
 | S, (id, o) :: r => setAll (S.set id o) r
def resE (T : Nat -> Option TI) (A : Env) (S : Store) : List ResultVar -> Option (List PV × List (Unit -> Prop))
 | [] => some ([], [])
 | .tmp t :: r => match resE T A S r with
   | some (l, C) => some (A.get t :: l, C)
   | none => none
 | .cell a t :: r => match loadE T S.get t (A.get a), resE T A S r with
   | some (v, _, C), some (l, C') => some (v :: l, C ++ C')
   | _, _ => none
def resPV : List PV -> PV
 | [v] => v
 | l => .tuple (PV.ofList l)
def guardE (ops : Array Oper) (A : Env) (g : Option (Nat × Bool)) : Option Bool :=
 match g with
 | none => some true
 | some (j, want) => match ops[j]? with
   | some o => match o.dst with
     | some d => match A.get d with
       | .tt => some want
       | .ff => some (!want)
       | .tuple .nil => some false
       | _ => none
     | none => none
   | none => none
def meets (a b : List Nat) : Bool := a.any fun x => b.any fun y => beqN x y
def drawOK (ops : Array Oper) (log : List (List Nat × List Nat)) : Bool :=
 let before := Region.before ops
 (ops.all fun o => o.op matches .select .. |>.not) &&
 (List.range ops.size).all fun j => match ops[j]? with
  | none => false
  | some oj => (oj.after.all fun e => !Region.binds .any e || decide (e.on < j)) &&
    (List.range j).all fun i => (before.getD j 0).testBit i || match ops[i]?, log[i]?, log[j]? with
      | some oi, some x, some y => oi.apart ops oj && !(meets x.2 y.1 || meets x.1 y.2 || meets x.2 y.2)
      | _, _, _ => false
structure Gs where
 val : Nat -> PV
 facts : Mem -> Prop
 mono : ∀ M M', M.le M' -> facts M -> facts M'
structure Ctx where
 T : Nat -> Option TI
 G : Gs
 res : List ResultVar
 N : Nat
 n0 : Nat
 rd : Bool := false
 lid : Nat := 0
def slotOK (N : Nat) : Option Nat -> Bool
 | none => true
 | some d => bltN d N
def step1 (X : Ctx) : Cfg -> Option (Cfg × List (Unit -> Prop))
 | ⟨.code (.seq a b) :: k, A, S, n⟩ => some (⟨.code a :: .code b :: k, A, S, n⟩, [])
 | ⟨.code .skip :: k, A, S, n⟩ => some (⟨k, A, S, n⟩, [])
 | ⟨.code (.label _) :: k, A, S, n⟩ => some (⟨k, A, S, n⟩, [])
 | ⟨.code (.block id c) :: k, A, S, n⟩ => some (⟨.code c :: .inBlock id :: k, A, S, n⟩, [])
 | ⟨.code (.scope c) :: k, A, S, n⟩ => some (⟨.code c :: .inScope c :: k, A, S, n⟩, [])
 | ⟨.code (.loop c) :: k, A, S, n⟩ => some (⟨.inLoop c :: k, A, S, n⟩, [])
 | ⟨.inBlock _ :: k, A, S, n⟩ => some (⟨k, A, S, n⟩, [])
 | ⟨.inScope _ :: k, A, S, n⟩ => some (⟨k, A, S, n⟩, [])
 | ⟨.code (.region _ ops d) :: k, A, S, n⟩ => some (⟨.ops d ops 0 [] :: k, A, S, n⟩, [])
 | ⟨.code (.cond c a b) :: k, A, S, n⟩ => match opnd X.G.val A c with
   | .tt => some (⟨.code a :: k, A, S, n⟩, [])
   | .ff => some (⟨.code b :: k, A, S, n⟩, [])
   | _ => none
 | ⟨.code (.exit id) :: k, A, S, n⟩ => match exitK id k with
   | some k' => some (⟨k', A, S, n⟩, [])
   | none => bif X.rd then some (⟨[.done (.int .i64 fun _ => (id : Int))], A, S, n⟩, []) else none
 | ⟨.begin :: k, A, S, n⟩ => match S.get X.lid with
   | some (.raw (.loop r)) => bif X.rd then some (⟨k, A, S.set X.lid (some (.raw (.loop { r with state := .busy }))), n⟩, [fun _ => r.state = .ready]) else none
   | _ => none
 | ⟨.code .ret :: k, A, S, n⟩ => bif X.rd then some (⟨[.done .ff], A, S, n⟩, []) else match resE X.T A S X.res with
   | some (l, C) => some (⟨[.done (resPV l)], A, S, n⟩, C)
   | none => none
 | ⟨[], A, S, n⟩ => bif X.rd then some (⟨[.done .tt], A, S, n⟩, []) else match resE X.T A S X.res with
   | some (l, C) => some (⟨[.done (resPV l)], A, S, n⟩, C)
   | none => none
 | ⟨.ops d ops i log :: k, A, S, n⟩ => match ops[i]? with
   | some o => bif slotOK X.N o.dst then (match guardE ops A o.guard with
     | some true => match opE X.T (opnd X.G.val A) S.get n o.op with
       | some E => some (⟨.ops d ops (i + 1) (log ++ [(E.F, E.W.map (·.1))]) :: k, put A o.dst E.v, setAll S E.W, E.n⟩, E.C)
       | none => none
     | some false => some (⟨.ops d ops (i + 1) (log ++ [([], [])]) :: k, put A o.dst (.tuple .nil), S, n⟩, [])
     | none => none) else none
   | none => some (⟨k, A, S, n⟩, bif d then [fun _ => drawOK ops log = true] else [])
 | _ => none
end Go.Abs
namespace Go.Abs
theorem sameShape_size : ∀ {p q : PV}, sameShape p q = true -> p.size = q.size := by
 intro p
 induction p with
 | agg l ih => intro q h; cases q <;> simp only [sameShape, PV.leaf, Bool.false_and, Bool.false_eq_true] at h; exact (ih h : l.size = _)
 | cons x r ih1 ih2 =>
   intro q h
   cases q <;> simp only [sameShape, PV.leaf, Bool.false_and, Bool.false_eq_true, Bool.and_eq_true] at h
   simp only [PV.size, ih1 h.1, ih2 h.2]
 | arrI k n l => intro q h; cases q <;> simp only [sameShape, PV.leaf, Bool.false_and, Bool.false_eq_true, Bool.and_eq_true, beq_iff_eq] at h; exact h.2
 | arrB n l => intro q h; cases q <;> simp only [sameShape, PV.leaf, Bool.false_and, Bool.false_eq_true, beq_iff_eq] at h; exact h
 | arrS n l => intro q h; cases q <;> simp only [sameShape, PV.leaf, Bool.false_and, Bool.false_eq_true, beq_iff_eq] at h; exact h
 | nil => intro q h; cases q <;> simp only [sameShape, PV.leaf, Bool.false_and, Bool.false_eq_true] at h; rfl
 | undef => intro q h; cases q <;> simp [sameShape, PV.leaf] at h
 | tuple l ih => intro q h; cases q <;> simp [sameShape, PV.leaf] at h
 | _ => intro q h; cases q <;> simp [sameShape, PV.leaf, PV.size] at h ⊢
theorem sameShape_wide {p q : PV} (h : sameShape p q = true) (hq : q.wide = true \/ q.leaf = true) : p.wide = q.wide /\ p.leaf = q.leaf := by
 cases p <;> cases q <;> simp_all [sameShape, PV.leaf, PV.wide]
theorem leaf_size {p : PV} (h : p.leaf = true) : p.size = 1 := by
 cases p <;> simp_all [PV.leaf, PV.size]
def seg (cs : List Value) (off n : Nat) : List Value := (cs.drop off).take n
theorem seg_length {cs : List Value} {off n : Nat} (h : off + n <= cs.length) : (seg cs off n).length = n := by simp [seg]; omega
theorem seg_all (cs : List Value) {n : Nat} (h : cs.length = n) : seg cs 0 n = cs := by subst h; simp [seg]
theorem seg_left {c d : List Value} {off n : Nat} (h : off + n <= c.length) : seg (c ++ d) off n = seg c off n := by
 simp only [seg]
 rw [List.drop_append_of_le_length (by omega), List.take_append_of_le_length (by simp; omega)]
theorem seg_right {c d : List Value} {off n : Nat} (h : c.length <= off) : seg (c ++ d) off n = seg d (off - c.length) n := by
 simp only [seg]
 rw [List.drop_append, List.drop_eq_nil_of_le h, List.nil_append]
theorem seg_one {cs : List Value} {off : Nat} {v : Value} (h : cs[off]? = some v) : seg cs off 1 = [v] := by
 have hlt : off < cs.length := (List.getElem?_eq_some_iff.1 h).1
 simp only [seg, List.drop_eq_getElem_cons hlt, List.take_succ_cons, List.take_zero]
 rw [List.getElem?_eq_getElem hlt] at h
 simpa using h
theorem seg_get {cs : List Value} {off n j : Nat} (h : j < n) : (seg cs off n)[j]? = cs[off + j]? := by
 simp [seg, h]
def splice (cs : List Value) (off : Nat) (c : List Value) : List Value := cs.take off ++ c ++ cs.drop (off + c.length)
theorem splice_left {c d z : List Value} {off : Nat} (h : off + z.length <= c.length) : splice (c ++ d) off z = splice c off z ++ d := by
 simp only [splice, List.append_assoc]
 rw [List.take_append_of_le_length (by omega), List.drop_append_of_le_length (by omega)]
theorem splice_right {c d z : List Value} {off : Nat} (h : c.length <= off) : splice (c ++ d) off z = c ++ splice d (off - c.length) z := by
 simp only [splice, List.append_assoc]
 rw [List.take_append, List.take_of_length_le h, List.append_assoc, List.drop_append, List.drop_eq_nil_of_le (by omega), List.nil_append]
 rw [show off + z.length - c.length = off - c.length + z.length by omega]
theorem splice_all (cs : List Value) {z : List Value} (h : cs.length = z.length) : splice cs 0 z = z := by simp [splice, <- h]
theorem splice_length {cs z : List Value} {off : Nat} (h : off + z.length <= cs.length) : (splice cs off z).length = cs.length := by simp [splice]; omega
theorem splice_one {cs : List Value} {off : Nat} {v : Value} (h : off < cs.length) : splice cs off [v] = cs.set off v := by
 simp only [splice, List.length_singleton]
 rw [List.set_eq_take_append_cons_drop, if_pos h]
 simp
theorem getElem?_getD {α : Type} {l : List α} {i : Nat} (d : α) (h : i < l.length) : l[i]? = some (l.getD i d) := by
 simp [List.getD_eq_getElem?_getD, List.getElem?_eq_getElem h]
theorem rel_at_leaf {M : Mem} {ρ : Names} {p : PV} (hl : p.leaf = true) {cs : List Value} (h : rel M p ρ .cells cs) : ∃ v, cs = [v] := by
 obtain ⟨v, h1, _⟩ := rel_leaf hl h
 exact ⟨v, h1⟩
theorem find_leaf {z : PV} {p : PV} (hp : p.leaf = true) (off : Nat) : PV.find z off p = bif beqN off 0 && z.leaf && p.leaf then some p else none := by
 cases p <;> simp_all [PV.leaf, PV.find]
theorem find_leaf_ok {M : Mem} {ρ : Names} {z p : PV} (hp : p.leaf = true) {off : Nat} {v : PV} {cs : List Value} (h : rel M p ρ .cells cs) (hf : PV.find z off p = some v) :
  off + v.size <= cs.length /\ rel M v ρ .cells (seg cs off v.size) /\ (sameShape v z = true \/ (v.leaf = true /\ z.leaf = true)) := by
 rw [find_leaf hp] at hf
 cases hb : (beqN off 0 && z.leaf && p.leaf) with
 | false => simp [hb] at hf
 | true =>
   simp only [hb, cond_true, Option.some.injEq] at hf
   subst hf
   simp only [Bool.and_eq_true, beq_iff_eq] at hb
   obtain ⟨⟨rfl, hz⟩, _⟩ := hb
   have hs := rel_size _ h
   exact ⟨by omega, by rw [seg_all _ hs]; exact h, .inr ⟨hp, hz⟩⟩
theorem find_ok {M : Mem} {ρ : Names} {z : PV} : ∀ (pv : PV) (off : Nat) (v : PV) (cs : List Value), rel M pv ρ .cells cs -> PV.find z off pv = some v ->
  off + v.size <= cs.length /\ rel M v ρ .cells (seg cs off v.size) /\ (sameShape v z = true \/ (v.leaf = true /\ z.leaf = true)) := by
 intro pv
 induction pv with
 | agg l ih =>
   intro off v cs h hf
   simp only [PV.find] at hf
   cases hb : (beqN off 0 && sameShape (.agg l) z) with
   | true =>
     simp only [hb, cond_true, Option.some.injEq] at hf
     subst hf
     simp only [Bool.and_eq_true, beq_iff_eq] at hb
     obtain ⟨rfl, hs⟩ := hb
     have hz := rel_size _ h
     exact ⟨by omega, by rw [seg_all _ hz]; exact h, .inl hs⟩
   | false =>
     simp only [hb, cond_false] at hf
     rcases h with ⟨_, h⟩ | ⟨h, _⟩
     · exact ih off v cs h hf
     · cases h
 | cons x r ih1 ih2 =>
   intro off v cs h hf
   simp only [PV.find] at hf
   rcases h with ⟨_, c, d, rfl, h1, h2⟩ | ⟨h, _⟩
   · have hc := rel_size _ h1
     cases hb : bltN off x.size with
     | true =>
       simp only [hb, cond_true] at hf
       obtain ⟨k1, k2, k3⟩ := ih1 off v c h1 hf
       exact ⟨by simp; omega, by rw [seg_left k1]; exact k2, k3⟩
     | false =>
       simp only [hb, cond_false] at hf
       have hle : x.size <= off := by
         rcases Nat.lt_or_ge off x.size with h' | h'
         · have : bltN off x.size = true := by simp [h']
           rw [this] at hb; cases hb
         · exact h'
       obtain ⟨k1, k2, k3⟩ := ih2 _ v d h2 hf
       exact ⟨by simp; omega, by rw [seg_right (by omega), hc]; exact k2, k3⟩
   · cases h
 | arrI k n l =>
   intro off v cs h hf
   simp only [PV.find] at hf
   cases hb : (beqN off 0 && sameShape (.arrI k n l) z) with
   | true =>
     simp only [hb, cond_true, Option.some.injEq] at hf
     subst hf
     simp only [Bool.and_eq_true, beq_iff_eq] at hb
     obtain ⟨rfl, hs⟩ := hb
     have hz := rel_size _ h
     exact ⟨by omega, by rw [seg_all _ hz]; exact h, .inl hs⟩
   | false =>
     simp only [hb, cond_false] at hf
     cases hb2 : (z.leaf && bltN off n) with
     | false => simp [hb2] at hf
     | true =>
       simp only [hb2, cond_true, Option.some.injEq] at hf
       subst hf
       simp only [Bool.and_eq_true, decide_eq_true_eq] at hb2
       obtain ⟨h1, h2⟩ := h
       rcases h2 with ⟨_, rfl⟩ | ⟨h, _⟩
       · refine ⟨by simp [PV.size]; omega, ?_, .inr ⟨rfl, hb2.1⟩⟩
         rw [show (PV.int k fun _ => (l ()).getD off 0).size = 1 from rfl, seg_one (v := .int k ((l ()).getD off 0)) (by rw [List.getElem?_map, getElem?_getD 0 (by omega)]; rfl)]
         exact ⟨by simp, rfl⟩
       · cases h
 | arrB n l =>
   intro off v cs h hf
   simp only [PV.find] at hf
   cases hb : (beqN off 0 && sameShape (.arrB n l) z) with
   | true =>
     simp only [hb, cond_true, Option.some.injEq] at hf
     subst hf
     simp only [Bool.and_eq_true, beq_iff_eq] at hb
     obtain ⟨rfl, hs⟩ := hb
     have hz := rel_size _ h
     exact ⟨by omega, by rw [seg_all _ hz]; exact h, .inl hs⟩
   | false =>
     simp only [hb, cond_false] at hf
     cases hb2 : (z.leaf && bltN off n) with
     | false => simp [hb2] at hf
     | true =>
       simp only [hb2, cond_true, Option.some.injEq] at hf
       subst hf
       simp only [Bool.and_eq_true, decide_eq_true_eq] at hb2
       obtain ⟨h1, h2⟩ := h
       rcases h2 with ⟨_, rfl⟩ | ⟨h, _⟩
       · refine ⟨by simp [PV.size]; omega, ?_, .inr ⟨rfl, hb2.1⟩⟩
         rw [show (PV.bool fun _ => (l ()).getD off false).size = 1 from rfl, seg_one (v := .bool ((l ()).getD off false)) (by rw [List.getElem?_map, getElem?_getD false (by omega)]; rfl)]
         exact ⟨by simp, rfl⟩
       · cases h
 | arrS n l =>
   intro off v cs h hf
   simp only [PV.find] at hf
   cases hb : (beqN off 0 && sameShape (.arrS n l) z) with
   | true =>
     simp only [hb, cond_true, Option.some.injEq] at hf
     subst hf
     simp only [Bool.and_eq_true, beq_iff_eq] at hb
     obtain ⟨rfl, hs⟩ := hb
     have hz := rel_size _ h
     exact ⟨by omega, by rw [seg_all _ hz]; exact h, .inl hs⟩
   | false =>
     simp only [hb, cond_false] at hf
     cases hb2 : (z.leaf && bltN off n) with
     | false => simp [hb2] at hf
     | true =>
       simp only [hb2, cond_true, Option.some.injEq] at hf
       subst hf
       simp only [Bool.and_eq_true, decide_eq_true_eq] at hb2
       obtain ⟨h1, h2⟩ := h
       rcases h2 with ⟨_, rfl⟩ | ⟨h, _⟩
       · refine ⟨by simp [PV.size]; omega, ?_, .inr ⟨rfl, hb2.1⟩⟩
         rw [show (PV.str fun _ => (l ()).getD off ByteArray.empty).size = 1 from rfl, seg_one (v := .string ((l ()).getD off ByteArray.empty)) (by rw [List.getElem?_map, getElem?_getD ByteArray.empty (by omega)]; rfl)]
         exact ⟨by simp, rfl⟩
       · cases h
 | nil => intro off v cs h hf; simp [PV.find, PV.leaf] at hf
 | undef => intro off v cs h hf; simp [PV.find, PV.leaf] at hf
 | tuple l ih => intro off v cs h hf; simp [PV.find, PV.leaf] at hf
 | _ => exact fun off v cs h hf => find_leaf_ok rfl h hf
theorem put_leaf {z : PV} {p : PV} (hp : p.leaf = true) (off : Nat) : PV.put z off p = bif beqN off 0 && z.leaf && p.leaf then some z else none := by
 cases p <;> simp_all [PV.leaf, PV.put]
theorem sameShape_symm : ∀ {p q : PV}, sameShape p q = true -> sameShape q p = true := by
 intro p
 induction p with
 | agg l ih => intro q h; cases q <;> simp only [sameShape, PV.leaf, Bool.false_and, Bool.false_eq_true] at h; exact (ih h : sameShape _ l = true)
 | cons x r ih1 ih2 =>
   intro q h
   cases q <;> simp only [sameShape, PV.leaf, Bool.false_and, Bool.false_eq_true, Bool.and_eq_true] at h
   simp only [sameShape, ih1 h.1, ih2 h.2, Bool.and_self]
 | arrI k n l => intro q h; cases q <;> simp_all [sameShape, PV.leaf]
 | arrB n l => intro q h; cases q <;> simp_all [sameShape, PV.leaf]
 | arrS n l => intro q h; cases q <;> simp_all [sameShape, PV.leaf]
 | nil => intro q h; cases q <;> simp_all [sameShape, PV.leaf]
 | undef => intro q h; cases q <;> simp [sameShape, PV.leaf] at h
 | tuple l ih => intro q h; cases q <;> simp [sameShape, PV.leaf] at h
 | _ => intro q h; cases q <;> simp_all [sameShape, PV.leaf]
theorem sameShape_refl_of {M : Mem} {ρ : Names} : ∀ {p : PV} {cs : List Value}, rel M p ρ .cells cs -> sameShape p p = true := by
 intro p
 induction p with
 | agg l ih =>
   intro cs h
   rcases h with ⟨_, h⟩ | ⟨h, _⟩
   · exact ih h
   · cases h
 | cons x r ih1 ih2 =>
   intro cs h
   rcases h with ⟨_, c, d, _, h1, h2⟩ | ⟨h, _⟩
   · simp only [sameShape, ih1 h1, ih2 h2, Bool.and_self]
   · cases h
 | undef => intro cs ⟨h, _⟩; cases h
 | tuple l ih => intro cs ⟨h, _⟩; cases h
 | _ => intro cs h; simp [sameShape, PV.leaf]
theorem put_leaf_ok {M : Mem} {ρ : Names} {z p : PV} {zs : List Value} (hz : rel M z ρ .cells zs) (hp : p.leaf = true) {off : Nat} {v : PV} {cs : List Value} (h : rel M p ρ .cells cs)
  (hf : (PV.put z off p) = some v) : off + zs.length <= cs.length /\ rel M v ρ .cells (splice cs off zs) /\ sameShape v p = true /\ v.wide = p.wide /\ v.leaf = p.leaf := by
 rw [put_leaf hp] at hf
 cases hb : (beqN off 0 && z.leaf && p.leaf) with
 | false => simp [hb] at hf
 | true =>
   simp only [hb, cond_true, Option.some.injEq] at hf
   subst hf
   simp only [Bool.and_eq_true, beq_iff_eq] at hb
   obtain ⟨⟨rfl, hl⟩, _⟩ := hb
   have h1 := (rel_size _ h).trans (leaf_size hp)
   have h2 := (rel_size _ hz).trans (leaf_size hl)
   refine ⟨by omega, by rw [splice_all _ (by omega)]; exact hz, ?_, ?_, by rw [hl, hp]⟩
   · cases z <;> cases p <;> simp_all [sameShape, PV.leaf]
   · cases z <;> cases p <;> simp_all [PV.wide, PV.leaf]
theorem put_ok {M : Mem} {ρ : Names} {z : PV} {zs : List Value} (hz : rel M z ρ .cells zs) : ∀ (pv : PV) (off : Nat) (v : PV) (cs : List Value), rel M pv ρ .cells cs -> PV.put z off pv = some v ->
  off + zs.length <= cs.length /\ rel M v ρ .cells (splice cs off zs) /\ sameShape v pv = true /\ v.wide = pv.wide /\ v.leaf = pv.leaf := by
 intro pv
 induction pv with
 | agg l ih =>
   intro off v cs h hf
   simp only [PV.put] at hf
   cases hb : (beqN off 0 && sameShape (.agg l) z) with
   | true =>
     simp only [hb, cond_true, Option.some.injEq] at hf
     subst hf
     simp only [Bool.and_eq_true, beq_iff_eq] at hb
     obtain ⟨rfl, hs⟩ := hb
     have hl := (rel_size _ h).trans ((sameShape_size hs).trans (rel_size _ hz).symm)
     refine ⟨by omega, by rw [splice_all _ hl]; exact hz, ?_⟩
     cases z <;> simp only [sameShape, PV.leaf, Bool.false_and, Bool.false_eq_true] at hs
     exact ⟨sameShape_symm hs, rfl, rfl⟩
   | false =>
     simp only [hb, cond_false] at hf
     rcases h with ⟨_, h⟩ | ⟨h, _⟩
     · cases hl : PV.put z off l with
       | none => simp [hl] at hf
       | some l' =>
         simp only [hl, Option.some.injEq] at hf
         subst hf
         obtain ⟨k1, k2, k3, _⟩ := ih off l' cs h hl
         exact ⟨k1, .inl ⟨rfl, k2⟩, k3, rfl, rfl⟩
     · cases h
 | cons x r ih1 ih2 =>
   intro off v cs h hf
   simp only [PV.put] at hf
   rcases h with ⟨_, c, d, rfl, h1, h2⟩ | ⟨h, _⟩
   · have hc := rel_size _ h1
     cases hb : bltN off x.size with
     | true =>
       simp only [hb, cond_true] at hf
       cases hl : PV.put z off x with
       | none => simp [hl] at hf
       | some x' =>
         simp only [hl, Option.some.injEq] at hf
         subst hf
         obtain ⟨k1, k2, k3, _⟩ := ih1 off x' c h1 hl
         refine ⟨by simp; omega, .inl ⟨rfl, _, d, splice_left k1, k2, h2⟩, ?_, rfl, rfl⟩
         simp only [sameShape, k3, Bool.true_and]
         exact sameShape_refl_of h2
     | false =>
       simp only [hb, cond_false] at hf
       have hle : x.size <= off := by
         rcases Nat.lt_or_ge off x.size with h' | h'
         · have : bltN off x.size = true := by simp [h']
           rw [this] at hb; cases hb
         · exact h'
       cases hl : PV.put z (off - x.size) r with
       | none => simp [hl] at hf
       | some r' =>
         simp only [hl, Option.some.injEq] at hf
         subst hf
         obtain ⟨k1, k2, k3, _⟩ := ih2 _ r' d h2 hl
         refine ⟨by simp; omega, .inl ⟨rfl, c, _, splice_right (by omega), h1, by rw [hc]; exact k2⟩, ?_, rfl, rfl⟩
         simp only [sameShape, k3, Bool.and_true]
         exact sameShape_refl_of h1
   · cases h
 | arrI k n l =>
   intro off v cs h hf
   simp only [PV.put] at hf
   cases hb : (beqN off 0 && sameShape (.arrI k n l) z) with
   | true =>
     simp only [hb, cond_true, Option.some.injEq] at hf
     subst hf
     simp only [Bool.and_eq_true, beq_iff_eq] at hb
     obtain ⟨rfl, hs⟩ := hb
     have hl := (rel_size _ h).trans ((sameShape_size hs).trans (rel_size _ hz).symm)
     refine ⟨by omega, by rw [splice_all _ hl]; exact hz, ?_⟩
     cases z <;> simp_all [sameShape, PV.leaf, PV.wide]
   | false =>
     simp only [hb, cond_false] at hf
     obtain ⟨h1, h2⟩ := h
     rcases h2 with ⟨_, rfl⟩ | ⟨h, _⟩
     · cases z <;> simp only [reduceCtorEq] at hf
       rename_i k' u
       cases hb2 : (decide (k = k') && bltN off n) with
       | false => simp [hb2] at hf
       | true =>
         simp only [hb2, cond_true, Option.some.injEq] at hf
         subst hf
         simp only [Bool.and_eq_true, decide_eq_true_eq, decide_eq_true_eq] at hb2
         obtain ⟨rfl, hlt⟩ := hb2
         obtain ⟨_, rfl⟩ := hz
         refine ⟨by simp; omega, ⟨by simp [h1], .inl ⟨rfl, ?_⟩⟩, by simp [sameShape], rfl, rfl⟩
         rw [splice_one (by simp; omega), List.map_set]
     · cases h
 | arrB n l =>
   intro off v cs h hf
   simp only [PV.put] at hf
   cases hb : (beqN off 0 && sameShape (.arrB n l) z) with
   | true =>
     simp only [hb, cond_true, Option.some.injEq] at hf
     subst hf
     simp only [Bool.and_eq_true, beq_iff_eq] at hb
     obtain ⟨rfl, hs⟩ := hb
     have hl := (rel_size _ h).trans ((sameShape_size hs).trans (rel_size _ hz).symm)
     refine ⟨by omega, by rw [splice_all _ hl]; exact hz, ?_⟩
     cases z <;> simp_all [sameShape, PV.leaf, PV.wide]
   | false =>
     simp only [hb, cond_false] at hf
     obtain ⟨h1, h2⟩ := h
     rcases h2 with ⟨_, rfl⟩ | ⟨h, _⟩
     · cases hb2 : bltN off n with
       | false => simp [hb2] at hf
       | true =>
         simp only [hb2, cond_true] at hf
         simp only [decide_eq_true_eq] at hb2
         cases z <;> simp only [reduceCtorEq, Option.some.injEq] at hf
         all_goals
           subst hf
           obtain ⟨_, rfl⟩ := hz
           refine ⟨by simp; omega, ⟨by simp [h1], .inl ⟨rfl, ?_⟩⟩, by simp [sameShape], rfl, rfl⟩
           rw [splice_one (by simp; omega), List.map_set]
     · cases h
 | arrS n l =>
   intro off v cs h hf
   simp only [PV.put] at hf
   cases hb : (beqN off 0 && sameShape (.arrS n l) z) with
   | true =>
     simp only [hb, cond_true, Option.some.injEq] at hf
     subst hf
     simp only [Bool.and_eq_true, beq_iff_eq] at hb
     obtain ⟨rfl, hs⟩ := hb
     have hl := (rel_size _ h).trans ((sameShape_size hs).trans (rel_size _ hz).symm)
     refine ⟨by omega, by rw [splice_all _ hl]; exact hz, ?_⟩
     cases z <;> simp_all [sameShape, PV.leaf, PV.wide]
   | false =>
     simp only [hb, cond_false] at hf
     obtain ⟨h1, h2⟩ := h
     rcases h2 with ⟨_, rfl⟩ | ⟨h, _⟩
     · cases hb2 : bltN off n with
       | false => simp [hb2] at hf
       | true =>
         simp only [hb2, cond_true] at hf
         simp only [decide_eq_true_eq] at hb2
         cases z <;> simp only [reduceCtorEq, Option.some.injEq] at hf
         all_goals
           subst hf
           obtain ⟨_, rfl⟩ := hz
           refine ⟨by simp; omega, ⟨by simp [h1], .inl ⟨rfl, ?_⟩⟩, by simp [sameShape], rfl, rfl⟩
           rw [splice_one (by simp; omega), List.map_set]
     · cases h
 | nil => intro off v cs h hf; simp [PV.put, PV.leaf] at hf
 | undef => intro off v cs h hf; simp [PV.put, PV.leaf] at hf
 | tuple l ih => intro off v cs h hf; simp [PV.put, PV.leaf] at hf
 | _ => exact fun off v cs h hf => put_leaf_ok hz rfl h hf
theorem findI_ok {M : Mem} {ρ : Names} {idx : Unit -> Int} : ∀ (pv : PV) (off n : Nat) (v : PV) (cs : List Value), rel M pv ρ .cells cs -> PV.findI idx off pv = some (n, v) ->
  off + n <= cs.length /\ v.leaf = true /\ (0 <= idx () -> idx () < n -> ∃ x, cs[off + (idx ()).toNat]? = some x /\ rel M v ρ .cells [x]) := by
 intro pv
 induction pv with
 | agg l ih =>
   intro off n v cs h hf
   simp only [PV.findI] at hf
   rcases h with ⟨_, h⟩ | ⟨h, _⟩
   · exact ih off n v cs h hf
   · cases h
 | cons x r ih1 ih2 =>
   intro off n v cs h hf
   simp only [PV.findI] at hf
   rcases h with ⟨_, c, d, rfl, h1, h2⟩ | ⟨h, _⟩
   · have hc := rel_size _ h1
     cases hb : bltN off x.size with
     | true =>
       simp only [hb, cond_true] at hf
       obtain ⟨k1, k2, k3⟩ := ih1 off n v c h1 hf
       refine ⟨by simp; omega, k2, fun h0 h3 => ?_⟩
       obtain ⟨y, hy, hr⟩ := k3 h0 h3
       exact ⟨y, by rw [List.getElem?_append_left (by omega)]; exact hy, hr⟩
     | false =>
       simp only [hb, cond_false] at hf
       have hle : x.size <= off := by
         rcases Nat.lt_or_ge off x.size with h' | h'
         · have : bltN off x.size = true := by simp [h']
           rw [this] at hb; cases hb
         · exact h'
       obtain ⟨k1, k2, k3⟩ := ih2 _ n v d h2 hf
       refine ⟨by simp; omega, k2, fun h0 h3 => ?_⟩
       obtain ⟨y, hy, hr⟩ := k3 h0 h3
       exact ⟨y, by rw [List.getElem?_append_right (by omega), show off + (idx ()).toNat - c.length = off - x.size + (idx ()).toNat by omega]; exact hy, hr⟩
   · cases h
 | arrI k n l =>
   intro off n0 v cs h hf
   simp only [PV.findI] at hf
   cases hb : beqN off 0 with
   | false => simp [hb] at hf
   | true =>
     simp only [hb, cond_true, Option.some.injEq, Prod.mk.injEq] at hf
     obtain ⟨rfl, rfl⟩ := hf
     obtain rfl : off = 0 := by simpa using hb
     obtain ⟨h1, h2⟩ := h
     rcases h2 with ⟨_, rfl⟩ | ⟨h, _⟩
     · refine ⟨by simp; omega, rfl, fun h0 h3 => ⟨_, ?_, ⟨by simp, rfl⟩⟩⟩
       rw [Nat.zero_add, List.getElem?_map, getElem?_getD 0 (by omega)]; rfl
     · cases h
 | arrB n l =>
   intro off n0 v cs h hf
   simp only [PV.findI] at hf
   cases hb : beqN off 0 with
   | false => simp [hb] at hf
   | true =>
     simp only [hb, cond_true, Option.some.injEq, Prod.mk.injEq] at hf
     obtain ⟨rfl, rfl⟩ := hf
     obtain rfl : off = 0 := by simpa using hb
     obtain ⟨h1, h2⟩ := h
     rcases h2 with ⟨_, rfl⟩ | ⟨h, _⟩
     · refine ⟨by simp; omega, rfl, fun h0 h3 => ⟨_, ?_, ⟨by simp, rfl⟩⟩⟩
       rw [Nat.zero_add, List.getElem?_map, getElem?_getD false (by omega)]; rfl
     · cases h
 | arrS n l =>
   intro off n0 v cs h hf
   simp only [PV.findI] at hf
   cases hb : beqN off 0 with
   | false => simp [hb] at hf
   | true =>
     simp only [hb, cond_true, Option.some.injEq, Prod.mk.injEq] at hf
     obtain ⟨rfl, rfl⟩ := hf
     obtain rfl : off = 0 := by simpa using hb
     obtain ⟨h1, h2⟩ := h
     rcases h2 with ⟨_, rfl⟩ | ⟨h, _⟩
     · refine ⟨by simp; omega, rfl, fun h0 h3 => ⟨_, ?_, ⟨by simp, rfl⟩⟩⟩
       rw [Nat.zero_add, List.getElem?_map, getElem?_getD ByteArray.empty (by omega)]; rfl
     · cases h
 | _ => intro off n v cs h hf; simp [PV.findI] at hf
theorem putI_ok {M : Mem} {ρ : Names} {idx : Unit -> Int} {z : PV} {zv : Value} (hz : rel M z ρ .cells [zv]) : ∀ (pv : PV) (off n : Nat) (v : PV) (cs : List Value), rel M pv ρ .cells cs -> PV.putI idx z off pv = some (n, v) ->
  off + n <= cs.length /\ sameShape v pv = true /\ v.wide = pv.wide /\ v.leaf = pv.leaf /\ (0 <= idx () -> idx () < n -> rel M v ρ .cells (cs.set (off + (idx ()).toNat) zv)) := by
 intro pv
 induction pv with
 | agg l ih =>
   intro off n v cs h hf
   simp only [PV.putI] at hf
   rcases h with ⟨_, h⟩ | ⟨h, _⟩
   · cases hl : PV.putI idx z off l with
     | none => simp [hl] at hf
     | some q =>
       obtain ⟨m, l'⟩ := q
       simp only [hl, Option.some.injEq, Prod.mk.injEq] at hf
       obtain ⟨rfl, rfl⟩ := hf
       obtain ⟨k1, k2, k3, k4, k5⟩ := ih off m l' cs h hl
       exact ⟨k1, k2, rfl, rfl, fun h0 h3 => .inl ⟨rfl, k5 h0 h3⟩⟩
   · cases h
 | cons x r ih1 ih2 =>
   intro off n v cs h hf
   simp only [PV.putI] at hf
   rcases h with ⟨_, c, d, rfl, h1, h2⟩ | ⟨h, _⟩
   · have hc := rel_size _ h1
     cases hb : bltN off x.size with
     | true =>
       simp only [hb, cond_true] at hf
       cases hl : PV.putI idx z off x with
       | none => simp [hl] at hf
       | some q =>
         obtain ⟨m, x'⟩ := q
         simp only [hl, Option.some.injEq, Prod.mk.injEq] at hf
         obtain ⟨rfl, rfl⟩ := hf
         obtain ⟨k1, k2, k3, k4, k5⟩ := ih1 off m x' c h1 hl
         refine ⟨by simp; omega, ?_, rfl, rfl, fun h0 h3 => .inl ⟨rfl, _, d, ?_, k5 h0 h3, h2⟩⟩
         · simp only [sameShape, k2, Bool.true_and]
           exact sameShape_refl_of h2
         · rw [List.set_append_left _ _ (by omega)]
     | false =>
       simp only [hb, cond_false] at hf
       have hle : x.size <= off := by
         rcases Nat.lt_or_ge off x.size with h' | h'
         · have : bltN off x.size = true := by simp [h']
           rw [this] at hb; cases hb
         · exact h'
       cases hl : PV.putI idx z (off - x.size) r with
       | none => simp [hl] at hf
       | some q =>
         obtain ⟨m, r'⟩ := q
         simp only [hl, Option.some.injEq, Prod.mk.injEq] at hf
         obtain ⟨rfl, rfl⟩ := hf
         obtain ⟨k1, k2, k3, k4, k5⟩ := ih2 _ m r' d h2 hl
         refine ⟨by simp; omega, ?_, rfl, rfl, fun h0 h3 => .inl ⟨rfl, c, _, ?_, h1, k5 h0 h3⟩⟩
         · simp only [sameShape, k2, Bool.and_true]
           exact sameShape_refl_of h1
         · rw [List.set_append_right _ _ (by omega), show off + (idx ()).toNat - c.length = off - x.size + (idx ()).toNat by omega]
   · cases h
 | arrI k n l =>
   intro off n0 v cs h hf
   simp only [PV.putI] at hf
   obtain ⟨h1, h2⟩ := h
   rcases h2 with ⟨_, rfl⟩ | ⟨h, _⟩
   · cases z <;> simp only [reduceCtorEq] at hf
     rename_i k' u
     cases hb2 : (decide (k = k') && beqN off 0) with
     | false => simp [hb2] at hf
     | true =>
       simp only [hb2, cond_true, Option.some.injEq, Prod.mk.injEq] at hf
       obtain ⟨rfl, rfl⟩ := hf
       simp only [Bool.and_eq_true, beq_iff_eq, decide_eq_true_eq] at hb2
       obtain ⟨rfl, rfl⟩ := hb2
       obtain ⟨_, hz2⟩ := hz
       obtain rfl : zv = .int k (u ()) := by simpa using hz2
       refine ⟨by simp; omega, by simp [sameShape], rfl, rfl, fun h0 h3 => ⟨by simp [h1], .inl ⟨rfl, ?_⟩⟩⟩
       rw [Nat.zero_add, List.map_set]
   · cases h
 | arrB n l =>
   intro off n0 v cs h hf
   simp only [PV.putI] at hf
   obtain ⟨h1, h2⟩ := h
   rcases h2 with ⟨_, rfl⟩ | ⟨h, _⟩
   · cases hb2 : beqN off 0 with
     | false => simp [hb2] at hf
     | true =>
       simp only [hb2, cond_true] at hf
       obtain rfl : off = 0 := by simpa using hb2
       cases z <;> simp only [reduceCtorEq, Option.some.injEq, Prod.mk.injEq] at hf
       all_goals
         obtain ⟨rfl, rfl⟩ := hf
         obtain ⟨_, hz2⟩ := hz
         simp only [List.cons.injEq, and_true] at hz2
         subst hz2
         refine ⟨by simp; omega, by simp [sameShape], rfl, rfl, fun h0 h3 => ⟨by simp [h1], .inl ⟨rfl, ?_⟩⟩⟩
         rw [Nat.zero_add, List.map_set]
   · cases h
 | arrS n l =>
   intro off n0 v cs h hf
   simp only [PV.putI] at hf
   obtain ⟨h1, h2⟩ := h
   rcases h2 with ⟨_, rfl⟩ | ⟨h, _⟩
   · cases hb2 : beqN off 0 with
     | false => simp [hb2] at hf
     | true =>
       simp only [hb2, cond_true] at hf
       obtain rfl : off = 0 := by simpa using hb2
       cases z <;> simp only [reduceCtorEq, Option.some.injEq, Prod.mk.injEq] at hf
       all_goals
         obtain ⟨rfl, rfl⟩ := hf
         obtain ⟨_, hz2⟩ := hz
         simp only [List.cons.injEq, and_true] at hz2
         subst hz2
         refine ⟨by simp; omega, by simp [sameShape], rfl, rfl, fun h0 h3 => ⟨by simp [h1], .inl ⟨rfl, ?_⟩⟩⟩
         rw [Nat.zero_add, List.map_set]
   · cases h
 | _ => intro off n v cs h hf; simp [PV.putI] at hf
end Go.Abs
namespace Go.Abs
variable {P : Program}
def noMem : Mem := ⟨fun _ _ => none, fun _ => none⟩
theorem noMem_le (M : Mem) : noMem.le M := ⟨fun _ _ _ h => (by cases h), fun _ _ h => (by cases h)⟩
theorem noNames_le (ρ : Names) : noNames.le ρ := fun _ _ h => by cases h
def TD.fits (P : Program) (t : TypeId) : TD -> Prop
 | .other => True
 | .bool => P.underlying t = some .bool
 | .int k => P.underlying t = some (.int k)
 | .str => P.underlying t = some .string
 | .ptr e => P.underlying t = some (.pointer e)
 | .slice e => P.underlying t = some (.slice e)
 | .arr n e => P.underlying t = some (.array n e)
 | .struct fs => ∃ a, P.underlying t = some (.struct a) /\ a.toList.map (fun f => (f.offset, f.type)) = fs /\ ∀ f ∈ a.toList, f.name ≠ "_" /\ ∃ inf, P.info? f.type = some inf
 | .map k e => P.underlying t = some (.map k e)
 | .func => ∃ ps rs v, P.underlying t = some (.func ps rs v)
 | .iface => ∃ ms, P.underlying t = some (.interface ms)
def TD.wide : TD -> Bool
 | .arr _ _ | .struct _ => true
 | _ => false
structure TOK (P : Program) (t : TypeId) (i : TI) : Prop where
 info : ∃ inf z, P.info? t = some inf /\ inf.size = i.size /\ inf.bytes = i.bytes /\ inf.zero = some z /\ rel noMem i.zero noNames .val [z]
 desc : i.d.fits P t
 some_ : ∃ d, P.underlying t = some d /\ d.isRow = i.zero.wide
 wide : i.zero.wide = true \/ i.zero.leaf = true
 dwide : i.zero.wide = i.d.wide
 size : i.size = i.zero.size
 held : i.d.wide = true -> P.stoodInHeld t = false /\ P.eqGuardType P.depth t = false
def TT (P : Program) (T : Nat -> Option TI) : Prop := ∀ t i, T t = some i -> TOK P t i
theorem run_isAgg {t : TypeId} {i : TI} (h : TOK P t i) (w : World) : (isAgg t).run P w = .ok i.zero.wide w := by
 obtain ⟨d, h1, h2⟩ := h.some_
 unfold isAgg
 rw [Sem.run_bind, run_underlying h1 w, <- h2]
 cases d <;> simp [TypeDesc.isRow]
theorem run_sizeOf' {t : TypeId} {i : TI} (h : TOK P t i) (w : World) : (sizeOf t).run P w = .ok i.size w := by
 obtain ⟨inf, z, h1, h2, _⟩ := h.info
 simp [sizeOf, typeInfo, h1, h2]
theorem run_zero {t : TypeId} {i : TI} (h : TOK P t i) (w : World) : ∃ z, (zeroValue t).run P w = .ok z w /\ rel noMem i.zero noNames .val [z] := by
 obtain ⟨inf, z, h1, _, _, h4, h5⟩ := h.info
 exact ⟨z, by simp [zeroValue, typeInfo, h1, h4], h5⟩
theorem leaf_not_wide {p : PV} (h : p.leaf = true) : p.wide = false := by cases p <;> simp_all [PV.wide, PV.leaf]
theorem shape_wide {v z : PV} (hz : z.wide = true \/ z.leaf = true) (h : sameShape v z = true \/ (v.leaf = true /\ z.leaf = true)) : v.wide = z.wide /\ v.leaf = z.leaf /\ v.size = z.size := by
 rcases h with h | ⟨h1, h2⟩
 ·exact ⟨(sameShape_wide h hz).1, (sameShape_wide h hz).2, sameShape_size h⟩
 ·exact ⟨by rw [leaf_not_wide h1, leaf_not_wide h2], by rw [h1, h2], by rw [leaf_size h1, leaf_size h2]⟩
theorem run_part' {t : TypeId} {i : TI} (h : TOK P t i) {M : Mem} {ρ : Names} {v : PV} {cs : List Value} {off : Nat} (hle : off + v.size <= cs.length)
  (hv : rel M v ρ .cells (seg cs off v.size)) (hs : sameShape v i.zero = true \/ (v.leaf = true /\ i.zero.leaf = true)) (w : World) :
  ∃ x, (part t cs.toArray off).run P w = .ok x w /\ rel M v ρ .val [x] := by
 obtain ⟨h1, h2, h3⟩ := shape_wide h.wide hs
 unfold part
 rw [Sem.run_bind, run_isAgg h w]
 simp only [Result.andThen_ok]
 cases hw : i.zero.wide with
 | true =>
   simp only [if_true, Sem.run_bind, run_sizeOf' h, Result.andThen_ok, Sem.run_pure]
   refine ⟨_, rfl, ?_⟩
   have : cs.toArray.extract off (off + i.size) = (seg cs off v.size).toArray := by
     rw [h.size, <- h3]; simp [seg, List.extract_toArray, List.extract_eq_take_drop]
   rw [this]
   exact wide_rel (by rw [h1, hw]) hv
 | false =>
   have hl : v.leaf = true := by rw [h2]; rcases h.wide with h' | h'; rw [hw] at h'; cases h'; exact h'
   obtain ⟨x, hx, _, hr⟩ := rel_leaf hl hv
   have hsz := leaf_size hl
   have hg : cs[off]? = some x := by
     have := seg_get (cs := cs) (off := off) (n := v.size) (j := 0) (by omega)
     rw [hx] at this
     simpa using this.symm
   simp only [Bool.false_eq_true, if_false]
   rw [show cs.toArray[off]? = some x by simpa using hg]
   exact ⟨x, rfl, hr .val (by simp)⟩
theorem rel_int {M : Mem} {ρ : Names} {k : IntKind} {n : Unit -> Int} {m : Mode} {v : Value} (h : rel M (.int k n) ρ m [v]) : v = .int k (n ()) := by simpa using h.2
theorem rel_str {M : Mem} {ρ : Names} {s : Unit -> ByteArray} {m : Mode} {v : Value} (h : rel M (.str s) ρ m [v]) : v = .string (s ()) := by simpa using h.2
theorem rel_asB {M : Mem} {ρ : Names} {p : PV} {b : Unit -> Bool} (hb : asB p = some b) {m : Mode} {v : Value} (h : rel M p ρ m [v]) : v = .bool (b ()) := by
 cases p <;> simp only [asB, Option.some.injEq, reduceCtorEq] at hb
 all_goals (subst hb; simpa using h.2)
theorem int_rel {M : Mem} {ρ : Names} {k : IntKind} {n : Unit -> Int} {x : Int} (h : n () = x) : rel M (.int k n) ρ .val [.int k x] := ⟨by simp, by rw [h]⟩
theorem bool_rel {M : Mem} {ρ : Names} {b : Unit -> Bool} {x : Bool} (h : b () = x) : rel M (.bool b) ρ .val [.bool x] := ⟨by simp, by rw [h]⟩
theorem str_rel {M : Mem} {ρ : Names} {s : Unit -> ByteArray} {x : ByteArray} (h : s () = x) : rel M (.str s) ρ .val [.string x] := ⟨by simp, by rw [h]⟩
theorem bytes_toList_inj {a b : ByteArray} : (a.toList == b.toList) = decide (a = b) := by
 rw [Bool.eq_iff_iff, beq_iff_eq, decide_eq_true_eq]
 constructor
 ·intro h
  rw [ByteArray.toList_eq, ByteArray.toList_eq] at h
  obtain ⟨⟨x⟩⟩ := a
  obtain ⟨⟨y⟩⟩ := b
  simpa using h
 ·rintro rfl; rfl
theorem bytes_beq {a b : ByteArray} : (a == b) = decide (a = b) := by rw [beq_toListBytes, bytes_toList_inj]
theorem intOp_ok {op : BinOp} {k : IntKind} {a b : Unit -> Int} {v : PV} {C : List (Unit -> Prop)} (h : intOp op k a b = some (v, C)) (hC : ∀ c ∈ C, c ()) (t : TypeId) (k' : IntKind)
  (hk : op = .shl \/ op = .shr \/ k' = k) (M : Mem) (ρ : Names) (w : World) :
  ∃ x, (binOp op t (.int k (a ())) (.int k' (b ()))).run P w = .ok x w /\ rel M v ρ .val [x] := by
 cases op
 all_goals simp only [intOp, Option.some.injEq, Prod.mk.injEq] at h
 all_goals obtain ⟨rfl, rfl⟩ := h
 all_goals simp only [reduceCtorEq, false_or, or_false, true_or, or_true] at hk
 all_goals try subst hk
 all_goals try simp only [List.mem_cons, List.not_mem_nil, or_false, forall_eq] at hC
 all_goals simp only [binOp]
 case add => exact ⟨_, by simp [Op.intArith], int_rel rfl⟩
 case sub => exact ⟨_, by simp [Op.intArith], int_rel rfl⟩
 case mul => exact ⟨_, by simp [Op.intArith], int_rel rfl⟩
 case quo => exact ⟨_, by simp [Op.intDiv, hC], int_rel rfl⟩
 case rem => exact ⟨_, by simp [Op.intDiv, hC], int_rel rfl⟩
 case and => exact ⟨.int k' (bitAnd k' (a ()) (b ())), by simp [Op.intBits, bitAnd], int_rel rfl⟩
 case or => exact ⟨.int k' (bitOr k' (a ()) (b ())), by simp [Op.intBits, bitOr], int_rel rfl⟩
 case xor => exact ⟨.int k' (bitXor k' (a ()) (b ())), by simp [Op.intBits, bitXor], int_rel rfl⟩
 case andNot => exact ⟨.int k' (bitAndNot k' (a ()) (b ())), by simp [Op.intBits, bitAndNot], int_rel rfl⟩
 case shl =>
  have : ¬ b () < 0 := by omega
  exact ⟨_, by simp [Op.shift, this]; rfl, int_rel rfl⟩
 case shr =>
  have : ¬ b () < 0 := by omega
  exact ⟨_, by simp [Op.shift, this]; rfl, int_rel rfl⟩
 all_goals exact ⟨_, by simp [Op.intCmp], bool_rel rfl⟩
theorem strOp_ok {op : BinOp} {a b : Unit -> ByteArray} {v : PV} {C : List (Unit -> Prop)} (h : strOp op a b = some (v, C)) (hC : ∀ c ∈ C, c ()) (t : TypeId)
  (M : Mem) (ρ : Names) (w : World) :
  ∃ x, (binOp op t (.string (a ())) (.string (b ()))).run P w = .ok x w /\ rel M v ρ .val [x] := by
 cases op
 all_goals simp only [strOp, Option.some.injEq, Prod.mk.injEq, reduceCtorEq] at h
 all_goals obtain ⟨rfl, rfl⟩ := h
 all_goals try simp only [List.mem_cons, List.not_mem_nil, or_false, forall_eq] at hC
 all_goals simp only [binOp, Op.stringOp]
 case add =>
  have : ¬ (((a ()).size + (b ()).size : Nat) : Int) > IntKind.i64.max := by simp [IntKind.max, IntKind.signed, IntKind.bits]; omega
  exact ⟨_, by rw [if_neg this]; rfl, str_rel rfl⟩
 case eql => exact ⟨_, by rw [bytes_toList_inj]; rfl, bool_rel rfl⟩
 case neq => exact ⟨_, by rw [bytes_toList_inj]; rfl, bool_rel (by simp)⟩
 case lss => exact ⟨_, rfl, bool_rel rfl⟩
 case leq => exact ⟨_, by rw [bytes_toList_inj]; rfl, bool_rel rfl⟩
 case gtr => exact ⟨_, by rw [bytes_toList_inj]; rfl, bool_rel rfl⟩
 case geq => exact ⟨_, rfl, bool_rel rfl⟩
end Go.Abs
namespace Go.Abs
variable {P : Program}
theorem cellsOf_leaf {e : TypeId} {i : TI} (h : TOK P e i) (hl : i.d.wide = false) : P.cellsOf e = 1 := by
 obtain ⟨inf, z, h1, h2, _⟩ := h.info
 have hw : i.zero.wide = false := by rw [h.dwide, hl]
 have : i.zero.leaf = true := by rcases h.wide with h' | h'; rw [hw] at h'; cases h'; exact h'
 simp only [Program.cellsOf, h1, Option.map_some, Option.getD_some, h2, h.size, leaf_size this]
theorem part_scalar {e : TypeId} {i : TI} (h : TOK P e i) (hl : i.d.wide = false) {xs : Array Value} {j : Nat} {v : Value} (hx : xs[j]? = some v) (w : World) :
  (part e xs j).run P w = .ok v w := by
 unfold part
 rw [Sem.run_bind, run_isAgg h w]
 simp only [Result.andThen_ok, h.dwide, hl, Bool.false_eq_true, if_false, hx]
 rfl
theorem beq_dec {α : Type} [BEq α] [LawfulBEq α] [DecidableEq α] (a b : α) : (a == b) = decide (a = b) := by rw [Bool.eq_iff_iff]; simp
theorem eqItems_scalar {α : Type} [DecidableEq α] {e : TypeId} {i : TI} (h : TOK P e i) (hl : i.d.wide = false) (D : Nat) (f : α -> Value) (w : World)
  (heq : ∀ a b, (Op.equalIn D e (f a) (f b)).run P w = .ok (decide (a = b)) w) (l l' : List α) (n : Nat) (h1 : l.length = n) (h2 : l'.length = n) :
  ∀ is : List Nat, (∀ j ∈ is, j < n) -> (Op.eqItems D e (P.cellsOf e) (l.map f).toArray (l'.map f).toArray is).run P w = .ok (is.all fun j => decide (l[j]? = l'[j]?)) w
 | [], _ => by simp [Op.eqItems]
 | j :: is, hall => by
   have hj := hall j (by simp)
   have ih := eqItems_scalar h hl D f w heq l l' n h1 h2 is (fun k hk => hall k (by simp [hk]))
   have g1 : l[j]? = some l[j] := List.getElem?_eq_getElem (by omega)
   have g2 : l'[j]? = some l'[j] := List.getElem?_eq_getElem (by omega)
   have e1 : (l.map f).toArray[j]? = some (f l[j]) := by simp [g1]
   have e2 : (l'.map f).toArray[j]? = some (f l'[j]) := by simp [g2]
   simp only [Op.eqItems, cellsOf_leaf h hl, Nat.mul_one, Sem.run_bind, part_scalar h hl e1, part_scalar h hl e2, Result.andThen_ok, heq]
   rw [cellsOf_leaf h hl] at ih
   by_cases hd : l[j] = l'[j]
   · simp [hd, ih, g1, g2]
   · simp [hd, g1, g2]
theorem all_range {α : Type} [DecidableEq α] (l l' : List α) (n : Nat) (h1 : l.length = n) (h2 : l'.length = n) :
  ((List.range n).all fun j => decide (l[j]? = l'[j]?)) = decide (l = l') := by
 rw [Bool.eq_iff_iff, List.all_eq_true, decide_eq_true_eq]
 constructor
 ·intro h
  apply List.ext_getElem?
  intro j
  by_cases hj : j < n
  ·simpa using h j (List.mem_range.2 hj)
  ·rw [List.getElem?_eq_none (by omega), List.getElem?_eq_none (by omega)]
 ·rintro rfl j _; simp
theorem equalIn_array {t e : TypeId} {i : TI} {n : Nat} (hu : P.underlying t = some (.array n e)) (h : TOK P e i) (hl : i.d.wide = false) {α : Type} [DecidableEq α] (D : Nat) (f : α -> Value) (w : World)
  (heq : ∀ a b, (Op.equalIn D e (f a) (f b)).run P w = .ok (decide (a = b)) w) (l l' : List α) (h1 : l.length = n) (h2 : l'.length = n) :
  (Op.equalIn (D + 1) t (.agg (l.map f).toArray) (.agg (l'.map f).toArray)).run P w = .ok (decide (l = l')) w := by
 obtain ⟨inf, z, hi, _⟩ := h.info
 rw [run_equalIn_array w D _ _ hu hi, eqItems_scalar h hl D f w heq l l' n h1 h2 _ (fun j hj => List.mem_range.1 hj), all_range l l' n h1 h2]
theorem rel_arrI {M : Mem} {ρ : Names} {k : IntKind} {n : Nat} {l : Unit -> List Int} {v : Value} (h : rel M (.arrI k n l) ρ .val [v]) : (l ()).length = n /\ v = .agg ((l ()).map (.int k)).toArray := by
 obtain ⟨h1, h2⟩ := h
 rcases h2 with ⟨h2, _⟩ | ⟨_, h2⟩
 ·cases h2
 ·exact ⟨h1, by simpa using h2⟩
theorem rel_arrB {M : Mem} {ρ : Names} {n : Nat} {l : Unit -> List Bool} {v : Value} (h : rel M (.arrB n l) ρ .val [v]) : (l ()).length = n /\ v = .agg ((l ()).map .bool).toArray := by
 obtain ⟨h1, h2⟩ := h
 rcases h2 with ⟨h2, _⟩ | ⟨_, h2⟩
 ·cases h2
 ·exact ⟨h1, by simpa using h2⟩
theorem rel_arrS {M : Mem} {ρ : Names} {n : Nat} {l : Unit -> List ByteArray} {v : Value} (h : rel M (.arrS n l) ρ .val [v]) : (l ()).length = n /\ v = .agg ((l ()).map .string).toArray := by
 obtain ⟨h1, h2⟩ := h
 rcases h2 with ⟨h2, _⟩ | ⟨_, h2⟩
 ·cases h2
 ·exact ⟨h1, by simpa using h2⟩
theorem eq_ptr1 {t e : TypeId} (hu : P.underlying t = some (.pointer e)) (D : Nat) (b : Option Addr) (w : World) : (Op.equalIn (D + 1) t (.pointer none) (.pointer b)).run P w = .ok b.isNone w := by
 simp only [Op.equalIn, Sem.run_bind, run_underlying hu, Result.andThen_ok, Sem.run_pure]
theorem eq_ptr2 {t e : TypeId} (hu : P.underlying t = some (.pointer e)) (D : Nat) (a : Addr) (w : World) : (Op.equalIn (D + 1) t (.pointer (some a)) (.pointer none)).run P w = .ok false w := by
 simp only [Op.equalIn, Sem.run_bind, run_underlying hu, Result.andThen_ok, Sem.run_pure]
theorem eq_map1 {t k e : TypeId} (hu : P.underlying t = some (.map k e)) (D : Nat) (b : Option Nat) (w : World) : (Op.equalIn (D + 1) t (.map none) (.map b)).run P w = .ok b.isNone w := by
 simp only [Op.equalIn, Sem.run_bind, run_underlying hu, Result.andThen_ok, Sem.run_pure]
theorem eq_map2 {t k e : TypeId} (hu : P.underlying t = some (.map k e)) (D : Nat) (a : Nat) (w : World) : (Op.equalIn (D + 1) t (.map (some a)) (.map none)).run P w = .ok false w := by
 simp only [Op.equalIn, Sem.run_bind, run_underlying hu, Result.andThen_ok, Sem.run_pure]
theorem eq_fn1 {t : TypeId} {ps rs v} (hu : P.underlying t = some (.func ps rs v)) (D : Nat) (w : World) : (Op.equalIn (D + 1) t .nilFunc .nilFunc).run P w = .ok true w := by
 simp only [Op.equalIn, Sem.run_bind, run_underlying hu, Result.andThen_ok, Sem.run_pure]
theorem eq_fn2 {t : TypeId} {ps rs v} (hu : P.underlying t = some (.func ps rs v)) (D : Nat) (fn : Fn) (a b : Array Value) (w : World) : (Op.equalIn (D + 1) t .nilFunc (.func fn a b)).run P w = .ok false w := by
 simp only [Op.equalIn, Sem.run_bind, run_underlying hu, Result.andThen_ok, Sem.run_pure]
theorem eq_fn3 {t : TypeId} {ps rs v} (hu : P.underlying t = some (.func ps rs v)) (D : Nat) (fn : Fn) (a b : Array Value) (w : World) : (Op.equalIn (D + 1) t (.func fn a b) .nilFunc).run P w = .ok false w := by
 simp only [Op.equalIn, Sem.run_bind, run_underlying hu, Result.andThen_ok, Sem.run_pure]
theorem eqT_ok {T : Nat -> Option TI} (hT : TT P T) {M : Mem} {ρ : Names} : ∀ (d : Nat) (t : Nat) (x y : PV) (f : Unit -> Bool) (vx vy : Value), eqT T d t x y = some f ->
  rel M x ρ .val [vx] -> rel M y ρ .val [vy] -> ∀ (D : Nat) (w : World), d < D -> (Op.equalIn D t vx vy).run P w = .ok (f ()) w := by
 intro d
 induction d with
 | zero => intro t x y f vx vy h; simp [eqT] at h
 | succ d ih =>
   intro t x y f vx vy h hx hy D w hD
   obtain ⟨D, rfl⟩ : ∃ D', D = D' + 2 := ⟨D - 2, by omega⟩
   unfold eqT at h
   cases ht : T t with
   | none => simp [ht] at h
   | some i =>
     have hi := hT t i ht
     rw [ht] at h
     obtain ⟨td, sz, by_, z⟩ := i
     cases td
     case other => exact absurd h (by simp)
     case slice e => exact absurd h (by simp)
     case iface => exact absurd h (by simp)
     case bool =>
       have hu : P.underlying t = some .bool := hi.desc
       simp only at h
       split at h
       · rename_i a b ha hb
         simp only [Option.some.injEq] at h
         rw [rel_asB ha hx, rel_asB hb hy, run_equalIn_bool w _ t _ _ hu, <- h]
       · cases h
     case int k =>
       have hu : P.underlying t = some (.int k) := hi.desc
       simp only at h
       split at h
       · rename_i k1 a k2 b
         cases hk : decide (k1 = k2) with
         | false => simp [hk] at h
         | true =>
           simp only [hk, cond_true, Option.some.injEq] at h
           have hk' := of_decide_eq_true hk
           subst hk'
           rw [rel_int hx, rel_int hy, <- h]
           simp [Op.equalIn, run_underlying hu]
       · cases h
     case str =>
       have hu : P.underlying t = some .string := hi.desc
       simp only at h
       split at h
       · simp only [Option.some.injEq] at h
         rw [rel_str hx, rel_str hy, <- h]
         simp only [Op.equalIn, Sem.run_bind, run_underlying hu, Result.andThen_ok, Sem.run_pure, bytes_beq]
       · cases h
     case arr n el =>
       have hu : P.underlying t = some (.array n el) := hi.desc
       simp only at h
       cases he : T el with
       | none => simp [he] at h
       | some ie =>
         have hie := hT el ie he
         rw [he] at h
         obtain ⟨tde, sze, bye, ze⟩ := ie
         cases tde <;> try (simp at h; done)
         case int k0 =>
           simp only at h
           split at h
           · rename_i k1 m1 a k2 m2 b
             cases hk : (decide (k1 = k0) && decide (k2 = k0) && beqN m1 n && beqN m2 n) with
             | false => simp [hk] at h
             | true =>
               simp only [hk, cond_true, Option.some.injEq] at h
               simp only [Bool.and_eq_true, decide_eq_true_eq, beq_iff_eq] at hk
               obtain ⟨⟨⟨rfl, rfl⟩, rfl⟩, rfl⟩ := hk
               obtain ⟨l1, rfl⟩ := rel_arrI hx
               obtain ⟨l2, rfl⟩ := rel_arrI hy
               rw [<- h]
               have hue : P.underlying el = some (.int k2) := hie.desc
               exact equalIn_array hu hie rfl (D + 1) (.int k2) w (fun p q => by simp only [Op.equalIn, Sem.run_bind, run_underlying hue, Result.andThen_ok, if_true, Sem.run_pure, beq_dec]) _ _ l1 l2
           · cases h
         case bool =>
           simp only at h
           split at h
           · rename_i m1 a m2 b
             cases hk : (beqN m1 n && beqN m2 n) with
             | false => simp [hk] at h
             | true =>
               simp only [hk, cond_true, Option.some.injEq] at h
               simp only [Bool.and_eq_true, beq_iff_eq] at hk
               obtain ⟨rfl, rfl⟩ := hk
               obtain ⟨l1, rfl⟩ := rel_arrB hx
               obtain ⟨l2, rfl⟩ := rel_arrB hy
               rw [<- h]
               have hue : P.underlying el = some .bool := hie.desc
               exact equalIn_array hu hie rfl (D + 1) .bool w (fun p q => by simp only [Op.equalIn, Sem.run_bind, run_underlying hue, Result.andThen_ok, if_true, Sem.run_pure, beq_dec]) _ _ l1 l2
           · cases h
         case str =>
           simp only at h
           split at h
           · rename_i m1 a m2 b
             cases hk : (beqN m1 n && beqN m2 n) with
             | false => simp [hk] at h
             | true =>
               simp only [hk, cond_true, Option.some.injEq] at h
               simp only [Bool.and_eq_true, beq_iff_eq] at hk
               obtain ⟨rfl, rfl⟩ := hk
               obtain ⟨l1, rfl⟩ := rel_arrS hx
               obtain ⟨l2, rfl⟩ := rel_arrS hy
               rw [<- h]
               have hue : P.underlying el = some .string := hie.desc
               exact equalIn_array hu hie rfl (D + 1) .string w (fun p q => by simp only [Op.equalIn, Sem.run_bind, run_underlying hue, Result.andThen_ok, Sem.run_pure, bytes_beq]) _ _ l1 l2
           · cases h
     case struct fs =>
       obtain ⟨a, hu, hfs, hnm⟩ := hi.desc
       simp only at h
       split at h
       · rename_i l1 l2
         obtain ⟨cx, rfl, rx⟩ := rel_wide rfl hx
         obtain ⟨cy, rfl, ry⟩ := rel_wide rfl hy
         replace rx : rel M l1 ρ .cells cx := by rcases rx with ⟨_, rx⟩ | ⟨h', _⟩ <;> first | exact rx | cases h'
         replace ry : rel M l2 ρ .cells cy := by rcases ry with ⟨_, ry⟩ | ⟨h', _⟩ <;> first | exact ry | cases h'
         have hP : P.fieldsOf t = a := by simp [Program.fieldsOf, hu]
         rw [run_equalIn_struct w (D + 1) t _ _ (by rw [hP]; exact hu) (hi.held rfl).1, hP]
         clear hu hP
         have key : ∀ (flds : List Field) (fs : List (Nat × Nat)) (f : Unit -> Bool), flds.map (fun f => (f.offset, f.type)) = fs -> (∀ f ∈ flds, f.name ≠ "_") -> eqT.fields T d fs l1 l2 = some f ->
             (Op.eqFields (D + 1) cx.toArray cy.toArray flds).run P w = .ok (f ()) w := by
           intro flds
           induction flds with
           | nil =>
             intro fs f h1 _ h2
             subst h1
             simp only [List.map_nil, eqT.fields, Option.some.injEq] at h2
             simp [Op.eqFields, <- h2]
           | cons fl flds ihf =>
             intro fs f h1 hn h2
             subst h1
             simp only [List.map_cons, eqT.fields] at h2
             cases hft : T fl.type with
             | none => simp [hft] at h2
             | some ift =>
               have hift := hT _ _ hft
               rw [hft] at h2
               simp only at h2
               split at h2
               · rename_i p q hp hq
                 split at h2
                 · rename_i b1 b2 hb1 hb2
                   simp only [Option.some.injEq] at h2
                   obtain ⟨k1, k2, k3⟩ := find_ok _ _ _ _ rx hp
                   obtain ⟨m1, m2, m3⟩ := find_ok _ _ _ _ ry hq
                   obtain ⟨u1, r1, s1⟩ := run_part' hift k1 k2 k3 w
                   obtain ⟨u2, r2, s2⟩ := run_part' hift m1 m2 m3 w
                   have hr := ih fl.type p q b1 u1 u2 hb1 s1 s2 (D + 1) w (by omega)
                   have hrest := ihf _ b2 rfl (fun g hg => hn g (by simp [hg])) hb2
                   simp only [Op.eqFields, hn fl (by simp), ne_eq, not_false_eq_true, if_true, Sem.run_bind, r1, r2, hr, Result.andThen_ok]
                   rw [<- h2]
                   cases hbb : b1 () with
                   | false => simp
                   | true => simpa [hbb] using hrest
                 · cases h2
               · cases h2
         exact key a.toList fs f hfs (fun f hf => (hnm f hf).1) h
       · cases h
     case ptr e =>
       have hu : P.underlying t = some (.pointer e) := hi.desc
       simp only at h
       split at h <;> simp only [Option.some.injEq, reduceCtorEq] at h
       · obtain rfl : vx = .pointer none := by simpa using hx.2
         obtain rfl : vy = .pointer none := by simpa using hy.2
         rw [eq_ptr1 hu, <- h]; rfl
       · obtain rfl : vx = .pointer none := by simpa using hx.2
         obtain ⟨b, _, hb⟩ := hy
         obtain rfl : vy = _ := by simpa using hb.2
         rw [eq_ptr1 hu, <- h]; rfl
       · obtain rfl : vy = .pointer none := by simpa using hy.2
         obtain ⟨b, _, hb⟩ := hx
         obtain rfl : vx = _ := by simpa using hb.2
         rw [eq_ptr2 hu, <- h]
       · obtain rfl : vx = .pointer none := by simpa using hx.2
         obtain ⟨b, base, n, _, _, _, _, hb⟩ := hy
         obtain rfl : vy = _ := by simpa using hb.2
         rw [eq_ptr1 hu, <- h]; rfl
       · obtain rfl : vy = .pointer none := by simpa using hy.2
         obtain ⟨b, base, n, _, _, _, _, hb⟩ := hx
         obtain rfl : vx = _ := by simpa using hb.2
         rw [eq_ptr2 hu, <- h]
     case map k e =>
       have hu : P.underlying t = some (.map k e) := hi.desc
       simp only at h
       split at h <;> simp only [Option.some.injEq, reduceCtorEq] at h
       · obtain rfl : vx = .map none := by simpa using hx.2
         obtain rfl : vy = .map none := by simpa using hy.2
         rw [eq_map1 hu, <- h]; rfl
       · obtain rfl : vx = .map none := by simpa using hx.2
         obtain ⟨b, _, hb⟩ := hy
         obtain rfl : vy = _ := by simpa using hb.2
         rw [eq_map1 hu, <- h]; rfl
       · obtain rfl : vy = .map none := by simpa using hy.2
         obtain ⟨b, _, hb⟩ := hx
         obtain rfl : vx = _ := by simpa using hb.2
         rw [eq_map2 hu, <- h]
     case func =>
       obtain ⟨ps, rs, vv, hu⟩ := hi.desc
       simp only at h
       split at h <;> simp only [Option.some.injEq, reduceCtorEq] at h
       · obtain rfl : vx = .nilFunc := by simpa using hx.2
         obtain rfl : vy = .nilFunc := by simpa using hy.2
         rw [eq_fn1 hu, <- h]
       · obtain rfl : vx = .nilFunc := by simpa using hx.2
         obtain ⟨fs, cs, hb, _⟩ := hy
         obtain rfl : vy = _ := by simpa using hb.2
         rw [eq_fn2 hu, <- h]
       · obtain rfl : vy = .nilFunc := by simpa using hy.2
         obtain ⟨fs, cs, hb, _⟩ := hx
         obtain rfl : vx = _ := by simpa using hb.2
         rw [eq_fn3 hu, <- h]
end Go.Abs
namespace Go.Abs
variable {P : Program}
def plainEq : Value -> Bool
 | .bool _ | .agg _ | .pointer _ | .map _ | .func .. | .nilFunc => true
 | _ => false
theorem binOp_eql {t : TypeId} {a b : Value} (ha : plainEq a = true) (hb : plainEq b = true) :
  binOp .eql t a b = (do pure (.bool (<- Op.equal t a b))) /\ binOp .neq t a b = (do pure (.bool (!(<- Op.equal t a b)))) := by
 cases a <;> simp only [plainEq, Bool.false_eq_true] at ha <;> cases b <;> simp only [plainEq, Bool.false_eq_true] at hb <;> exact ⟨rfl, rfl⟩
theorem eqGuard_plain {op : BinOp} {t : TypeId} {x y : Operand} {a b : Value} (ha : plainEq a = true) (h : P.eqGuardType P.depth t = false \/ ∀ cs, a ≠ .agg cs) (w : World) :
  (eqGuard op t x y a b).run P w = .ok () w := by
 unfold eqGuard
 by_cases hop : op = .eql \/ op = .neq
 ·have : (!(match op with | .eql | .neq => true | _ => false)) = false := by rcases hop with rfl | rfl <;> rfl
  cases a <;> simp only [plainEq, Bool.false_eq_true] at ha
  case agg cs =>
   rcases h with h | h
   ·rcases hop with rfl | rfl <;> cases b <;> simp [h]
   ·exact absurd rfl (h cs)
  all_goals rcases hop with rfl | rfl <;> cases b <;> rfl
 ·cases op <;> simp_all <;> rfl
theorem eqGuard_scalar {op : BinOp} {t : TypeId} {x y : Operand} {a b : Value} (ha : ∀ cs, a ≠ .agg cs) (hn : a ≠ .nilIface) (w : World) :
  (eqGuard op t x y a b).run P w = .ok () w := by
 unfold eqGuard
 cases op <;> first
  | rfl
  | (cases a <;> first | rfl | exact absurd rfl (ha _) | exact absurd rfl hn)
theorem rel_wide_agg {M : Mem} {ρ : Names} {p : PV} (hp : p.wide = true) {v : Value} (h : rel M p ρ .val [v]) : ∃ cs, v = .agg cs := by
 obtain ⟨cs, h1, _⟩ := rel_wide hp h
 exact ⟨_, h1⟩
theorem eqT_plain {T : Nat -> Option TI} {M : Mem} {ρ : Names} {d t : Nat} {x y : PV} {f : Unit -> Bool} {vx vy : Value} (h : eqT T d t x y = some f)
  (hx : rel M x ρ .val [vx]) (hy : rel M y ρ .val [vy]) :
  (∃ k a k' b, x = .int k a /\ y = .int k' b) \/ (∃ a b, x = .str a /\ y = .str b) \/ (plainEq vx = true /\ plainEq vy = true /\ ((∀ cs, vx ≠ .agg cs) \/ ∃ i, T t = some i /\ i.d.wide = true)) := by
 have hb : ∀ {p : PV} {v : Value} {b : Unit -> Bool}, asB p = some b -> rel M p ρ .val [v] -> plainEq v = true /\ ∀ cs, v ≠ .agg cs := by
  intro p v b h1 h2
  rw [rel_asB h1 h2]; exact ⟨rfl, by simp⟩
 have hw : ∀ {p : PV} {v : Value}, p.wide = true -> rel M p ρ .val [v] -> plainEq v = true := by
  intro p v h1 h2
  obtain ⟨cs, rfl⟩ := rel_wide_agg h1 h2; rfl
 cases d with
 | zero => simp [eqT] at h
 | succ d =>
   unfold eqT at h
   split at h
   · split at h
     · rename_i a b ha hb'
       exact .inr (.inr ⟨(hb ha hx).1, (hb hb' hy).1, .inl (hb ha hx).2⟩)
     · cases h
   · split at h
     · exact .inl ⟨_, _, _, _, rfl, rfl⟩
     · cases h
   · split at h
     · exact .inr (.inl ⟨_, _, rfl, rfl⟩)
     · cases h
   · rename_i n el _ _ _ ht
     split at h
     · split at h
       · exact .inr (.inr ⟨hw rfl hx, hw rfl hy, .inr ⟨_, ht, rfl⟩⟩)
       · cases h
     · split at h
       · exact .inr (.inr ⟨hw rfl hx, hw rfl hy, .inr ⟨_, ht, rfl⟩⟩)
       · cases h
     · split at h
       · exact .inr (.inr ⟨hw rfl hx, hw rfl hy, .inr ⟨_, ht, rfl⟩⟩)
       · cases h
     · cases h
   · rename_i fs _ _ _ ht
     split at h
     · exact .inr (.inr ⟨hw rfl hx, hw rfl hy, .inr ⟨_, ht, rfl⟩⟩)
     · cases h
   · split at h
     · obtain rfl : vx = .pointer none := by simpa using hx.2
       obtain rfl : vy = .pointer none := by simpa using hy.2
       exact .inr (.inr ⟨rfl, rfl, .inl (by simp)⟩)
     · obtain rfl : vx = .pointer none := by simpa using hx.2
       obtain ⟨b, _, hb⟩ := hy
       obtain rfl : vy = _ := by simpa using hb.2
       exact .inr (.inr ⟨rfl, rfl, .inl (by simp)⟩)
     · obtain rfl : vy = .pointer none := by simpa using hy.2
       obtain ⟨b, _, hb⟩ := hx
       obtain rfl : vx = _ := by simpa using hb.2
       exact .inr (.inr ⟨rfl, rfl, .inl (by simp)⟩)
     · obtain rfl : vx = .pointer none := by simpa using hx.2
       obtain ⟨b, base, n, _, _, _, _, hb⟩ := hy
       obtain rfl : vy = _ := by simpa using hb.2
       exact .inr (.inr ⟨rfl, rfl, .inl (by simp)⟩)
     · obtain rfl : vy = .pointer none := by simpa using hy.2
       obtain ⟨b, base, n, _, _, _, _, hb⟩ := hx
       obtain rfl : vx = _ := by simpa using hb.2
       exact .inr (.inr ⟨rfl, rfl, .inl (by simp)⟩)
     · cases h
   · split at h
     · obtain rfl : vx = .map none := by simpa using hx.2
       obtain rfl : vy = .map none := by simpa using hy.2
       exact .inr (.inr ⟨rfl, rfl, .inl (by simp)⟩)
     · obtain rfl : vx = .map none := by simpa using hx.2
       obtain ⟨b, _, hb⟩ := hy
       obtain rfl : vy = _ := by simpa using hb.2
       exact .inr (.inr ⟨rfl, rfl, .inl (by simp)⟩)
     · obtain rfl : vy = .map none := by simpa using hy.2
       obtain ⟨b, _, hb⟩ := hx
       obtain rfl : vx = _ := by simpa using hb.2
       exact .inr (.inr ⟨rfl, rfl, .inl (by simp)⟩)
     · cases h
   · split at h
     · obtain rfl : vx = .nilFunc := by simpa using hx.2
       obtain rfl : vy = .nilFunc := by simpa using hy.2
       exact .inr (.inr ⟨rfl, rfl, .inl (by simp)⟩)
     · obtain rfl : vx = .nilFunc := by simpa using hx.2
       obtain ⟨fs, cs, hb, _⟩ := hy
       obtain rfl : vy = _ := by simpa using hb.2
       exact .inr (.inr ⟨rfl, rfl, .inl (by simp)⟩)
     · obtain rfl : vy = .nilFunc := by simpa using hy.2
       obtain ⟨fs, cs, hb, _⟩ := hx
       obtain rfl : vx = _ := by simpa using hb.2
       exact .inr (.inr ⟨rfl, rfl, .inl (by simp)⟩)
     · cases h
   · cases h
theorem sureN_eq {T : Nat -> Option TI} {t : Nat} {x y : PV} {f : Unit -> Bool} {b : Bool} (hf : eqT T 8 t x y = some f) (hb : sureN x y = some b) : f () = b := by
 unfold eqT at hf
 cases ht : T t with
 | none => simp [ht] at hf
 | some i =>
   obtain ⟨td, sz, by_, z⟩ := i
   rw [ht] at hf
   unfold sureN at hb
   split at hb
   all_goals first
     | (cases hb; done)
     | skip
   all_goals
     obtain rfl := Option.some.inj hb
     cases td <;> simp [asB] at hf <;> first
       | (rw [<- hf]; done)
       | (split at hf <;> simp at hf)
       | (subst hf; rfl)
       | skip
theorem binE_ok {T : Nat -> Option TI} (hT : TT P T) {M : Mem} {ρ : Names} {op : BinOp} {t : Nat} {x y : PV} {v : PV} {C : List (Unit -> Prop)} (h : binE T op t x y = some (v, C)) (hC : ∀ c ∈ C, c ())
  {vx vy : Value} (hx : rel M x ρ .val [vx]) (hy : rel M y ρ .val [vy]) (ox oy : Operand) (w : World) :
  ∃ u, (do eqGuard op t ox oy vx vy; binOp op t vx vy : Sem Value).run P w = .ok u w /\ rel M v ρ .val [u] := by
 have hint : ∀ {k a k' b}, x = .int k a -> y = .int k' b -> (∃ op', (op' = .shl \/ op' = .shr \/ k' = k) /\ op' = op /\ intOp op' k a b = some (v, C)) ->
   ∃ u, (do eqGuard op t ox oy vx vy; binOp op t vx vy : Sem Value).run P w = .ok u w /\ rel M v ρ .val [u] := by
  rintro k a k' b rfl rfl ⟨op', h1, rfl, h2⟩
  rw [rel_int hx, rel_int hy, Sem.run_bind, eqGuard_scalar (by simp) (by simp)]
  exact intOp_ok h2 hC t k' h1 M ρ w
 have hpl : ∀ f, eqT T 8 t x y = some f -> (∀ k a k' b, x = .int k a -> y = .int k' b -> False) -> (∀ a b, x = .str a -> y = .str b -> False) ->
   (eqGuard op t ox oy vx vy).run P w = .ok () w /\ (Op.equal t vx vy).run P w = .ok (f ()) w /\ plainEq vx = true /\ plainEq vy = true := by
  intro f hf h1 h2
  rcases eqT_plain hf hx hy with ⟨k, a, k', b, e1, e2⟩ | ⟨a, b, e1, e2⟩ | ⟨p1, p2, p3⟩
  ·exact (h1 _ _ _ _ e1 e2).elim
  ·exact (h2 _ _ e1 e2).elim
  ·refine ⟨eqGuard_plain p1 ?_ w, eqT_ok hT 8 t x y f vx vy hf hx hy Op.maxDepth w (by decide), p1, p2⟩
   rcases p3 with p3 | ⟨i, hi, hw⟩
   ·exact .inr p3
   ·exact .inl ((hT t i hi).held hw).2
 unfold binE at h
 split at h
 ·rename_i k a k' b
  split at h
  ·exact hint rfl rfl ⟨.shl, .inl rfl, rfl, h⟩
  ·exact hint rfl rfl ⟨.shr, .inr (.inl rfl), rfl, h⟩
  ·cases hk : decide (k = k') with
   | false => simp [hk] at h
   | true => exact hint rfl rfl ⟨_, .inr (.inr (of_decide_eq_true hk).symm), rfl, by simpa [hk] using h⟩
 ·rename_i a b
  rw [rel_str hx, rel_str hy, Sem.run_bind, eqGuard_scalar (by simp) (by simp)]
  exact strOp_ok h hC t M ρ w
 ·rename_i h1 h2
  split at h
  ·cases hf : eqT T 8 t x y with
   | none => simp [hf, told] at h
   | some f =>
     obtain ⟨g1, g2, g3, g4⟩ := hpl f hf h1 h2
     refine ⟨.bool (f ()), by rw [Sem.run_bind, g1, Result.andThen_ok, (binOp_eql g3 g4).1, Sem.run_bind, g2]; rfl, ?_⟩
     cases hs : sureN x y with
     | none =>
       simp only [hf, told, hs, Option.some.injEq, Prod.mk.injEq] at h
       obtain ⟨rfl, rfl⟩ := h
       exact bool_rel rfl
     | some b =>
       simp only [hf, told, hs, Option.some.injEq, Prod.mk.injEq] at h
       obtain ⟨rfl, rfl⟩ := h
       rw [sureN_eq hf hs]
       cases b <;> exact ⟨by simp, rfl⟩
  ·cases hf : eqT T 8 t x y with
   | none => simp [hf, flip] at h
   | some f =>
     obtain ⟨g1, g2, g3, g4⟩ := hpl f hf h1 h2
     refine ⟨.bool (!f ()), by rw [Sem.run_bind, g1, Result.andThen_ok, (binOp_eql g3 g4).2, Sem.run_bind, g2]; rfl, ?_⟩
     cases hs : sureN x y with
     | none =>
       simp only [hf, flip, hs, Option.some.injEq, Prod.mk.injEq] at h
       obtain ⟨rfl, rfl⟩ := h
       exact bool_rel rfl
     | some b =>
       simp only [hf, flip, hs, Option.some.injEq, Prod.mk.injEq] at h
       obtain ⟨rfl, rfl⟩ := h
       rw [sureN_eq hf hs]
       cases b <;> exact ⟨by simp, rfl⟩
  ·cases h
theorem unE_ok {M : Mem} {ρ : Names} {op : UnOp} {x v : PV} (h : unE op x = some v) {vx : Value} (hx : rel M x ρ .val [vx]) (w : World) :
  ∃ u, (Op.unary op vx).run P w = .ok u w /\ rel M v ρ .val [u] := by
 unfold unE at h
 split at h
 ·simp only [Option.some.injEq] at h
  subst h
  rw [rel_int hx]
  exact ⟨_, rfl, int_rel rfl⟩
 ·simp only [Option.some.injEq] at h
  subst h
  rw [rel_int hx]
  exact ⟨_, rfl, int_rel rfl⟩
 ·split at h <;> simp only [Option.some.injEq, reduceCtorEq] at h
  ·subst h
   rw [rel_asB (p := .tt) rfl hx]
   exact ⟨_, rfl, ⟨by simp, rfl⟩⟩
  ·subst h
   rw [rel_asB (p := .ff) rfl hx]
   exact ⟨_, rfl, ⟨by simp, rfl⟩⟩
  ·subst h
   rename_i b
   rw [rel_asB (p := .bool b) rfl hx]
   exact ⟨_, rfl, bool_rel rfl⟩
 ·cases h
theorem fold_splice_list (off : Nat) : ∀ (l : List Value) (s : Nat) (cs : List Value), off + s + l.length <= cs.length ->
  ((l.zipIdx s).foldl (fun (cs : Array Value) (x : Value × Nat) => cs.setIfInBounds (off + x.2) x.1) cs.toArray) = (splice cs (off + s) l).toArray := by
 intro l
 induction l with
 | nil => intro s cs h; simp [splice]
 | cons v l ih =>
   intro s cs h
   simp only [List.length_cons] at h
   simp only [List.zipIdx_cons, List.foldl_cons]
   rw [show cs.toArray.setIfInBounds (off + s) v = (cs.set (off + s) v).toArray by simp, ih (s + 1) _ (by simp; omega)]
   congr 1
   simp only [splice, List.length_cons]
   rw [List.take_set, List.drop_set]
   rw [if_pos (by omega)]
   rw [show off + (s + 1) = off + s + 1 by omega, List.take_add_one, List.set_append_right _ _ (by simp; omega)]
   have hlt : off + s < cs.length := by omega
   simp only [List.getElem?_eq_getElem hlt, Option.toList_some, List.length_take]
   rw [show off + s - min (off + s) cs.length = 0 by omega]
   simp [Nat.add_assoc, Nat.add_comm 1]
theorem fold_splice (cs : List Value) (off : Nat) (c : Array Value) (h : off + c.toList.length <= cs.length) :
  (c.zipIdx.foldl (fun (cs : Array Value) (x : Value × Nat) => cs.setIfInBounds (off + x.2) x.1) cs.toArray) = (splice cs off c.toList).toArray := by
 have := fold_splice_list off c.toList 0 cs (by omega)
 simp only [Nat.add_zero] at this
 rw [<- this, <- Array.foldl_toList]
 simp
theorem fill_ok {M : Mem} {ρ : Names} {e : Operand -> PV} {ev : Operand -> Value} (pl : Nat -> Option (Nat × Nat)) (place : Nat -> Option (Nat × Nat)) (hpl : ∀ i x, pl i = some x -> place i = some x) :
  ∀ (parts : List (Nat × Operand)) (z v : PV) (cs : List Value), (∀ x ∈ parts, rel M (e x.2) ρ .val [ev x.2]) -> rel M z ρ .cells cs -> buildE pl e parts z = some v ->
  ∃ cs', Instr.fill place cs.toArray (parts.map fun (i, x) => (i, ev x)) = some cs'.toArray /\ rel M v ρ .cells cs' /\ v.wide = z.wide /\ v.leaf = z.leaf := by
 intro parts
 induction parts with
 | nil =>
   intro z v cs _ hz h
   simp only [buildE, Option.some.injEq] at h
   subst h
   exact ⟨cs, rfl, hz, rfl, rfl⟩
 | cons q parts ih =>
   obtain ⟨i, x⟩ := q
   intro z v cs hr hz h
   simp only [buildE] at h
   cases hp : pl i with
   | none => simp [hp] at h
   | some o =>
     obtain ⟨off, n⟩ := o
     rw [hp] at h
     simp only at h
     cases hc : (beqN (e x).size n && ((e x).wide || (e x).leaf)) with
     | false => simp [hc] at h
     | true =>
       rw [hc] at h
       simp only [cond_true] at h
       simp only [Bool.and_eq_true, beq_iff_eq, Bool.or_eq_true] at hc
       cases hpt : PV.put (e x) off z with
       | none => simp [hpt] at h
       | some z' =>
         rw [hpt] at h
         simp only at h
         have hx := rel_cells hc.2 (hr (i, x) (by simp))
         have hsz := rel_size _ hx
         obtain ⟨k1, k2, k3, k4, k5⟩ := put_ok hx _ _ _ _ hz hpt
         obtain ⟨cs', f1, f2, f3, f4⟩ := ih z' v _ (fun y hy => hr y (by simp [hy])) k2 h
         refine ⟨cs', ?_, f2, by rw [f3, k4], by rw [f4, k5]⟩
         simp only [List.map_cons, Instr.fill, hpl i _ hp]
         have e1 : (ev x).cells.size = n := by rw [<- hc.1, <- hsz]; simp
         rw [if_neg (by simp only [Array.length_toList] at k1; simp [e1]; omega)]
         rw [<- f1]
         congr 1
         exact fold_splice _ _ _ k1
theorem run_mapM {α β : Type} (f : α -> Sem β) (g : α -> β) (w : World) : ∀ l : List α, (∀ a ∈ l, (f a).run P w = .ok (g a) w) -> (l.mapM f).run P w = .ok (l.map g) w
 | [], _ => by simp
 | a :: l, h => by
   have ih := run_mapM f g w l (fun b hb => h b (by simp [hb]))
   simp [List.mapM_cons, h a (by simp), ih]
theorem run_mapM_array {α β : Type} (f : α -> Sem β) (g : α -> β) (w : World) (l : Array α) (h : ∀ a ∈ l.toList, (f a).run P w = .ok (g a) w) : (l.mapM f).run P w = .ok (l.map g) w := by
 rw [Array.mapM_eq_mapM_toList]
 simp only [Sem.run_map, run_mapM f g w l.toList h, Result.andThen_ok]
 rw [<- Array.toList_map]
theorem build_ok {T : Nat -> Option TI} (hT : TT P T) {M : Mem} {ρ : Names} {e : Operand -> PV} {ev : Operand -> Value} {t : Nat} {parts : Array (Nat × Operand)} {v : PV} {C : List (Unit -> Prop)}
  (h : pureE T e (.build t parts) = some (v, C)) (hr : ∀ x ∈ parts.toList, rel M (e x.2) ρ .val [ev x.2]) (w : World) :
  ∃ u, (Instr.build t (parts.map fun (i, x) => (i, ev x))).run P w = .ok u w /\ rel M v ρ .val [u] := by
 simp only [pureE] at h
 cases ht : T t with
 | none => simp [ht] at h
 | some i =>
   have hi := hT t i ht
   rw [ht] at h
   obtain ⟨td, sz, by_, z⟩ := i
   obtain ⟨zv, hz1, hz2⟩ := run_zero hi w
   cases td <;> try (simp at h; done)
   case arr n el =>
     have hu : P.underlying t = some (.array n el) := hi.desc
     simp only at h
     cases he : T el with
     | none => simp [he] at h
     | some ie =>
       rw [he] at h
       simp only at h
       cases hb : buildE (fun j => some (j * ie.size, ie.size)) e parts.toList z with
       | none => simp [hb] at h
       | some v' =>
         simp only [hb, Option.some.injEq, Prod.mk.injEq] at h
         obtain ⟨rfl, rfl⟩ := h
         have hzw : z.wide = true := hi.dwide
         have hz3 : rel M z ρ .cells zv.cells.toList := rel_cells (.inl hzw) (rel_mono (noMem_le M) _ (noNames_le ρ) hz2)
         obtain ⟨cs', f1, f2, f3, f4⟩ := fill_ok (ev := ev) (fun j => some (j * ie.size, ie.size)) (fun i => some (i * ie.size, ie.size)) (fun _ _ h => h) _ _ _ _ hr hz3 hb
         refine ⟨.agg cs'.toArray, ?_, wide_rel (by rw [f3, hzw]) f2⟩
         simp only [Instr.build, Sem.run_bind, hz1, Result.andThen_ok, run_underlying hu, run_sizeOf' (hT el ie he)]
         rw [Array.toList_map]
         rw [show zv.cells = zv.cells.toList.toArray from rfl, f1]
         rfl
   case struct fs =>
     obtain ⟨a, hu, hfs, hnm⟩ := hi.desc
     simp only at h
     cases hb : buildE (placeE T fs) e parts.toList z with
     | none => simp [hb] at h
     | some v' =>
       simp only [hb, Option.some.injEq, Prod.mk.injEq] at h
       obtain ⟨rfl, rfl⟩ := h
       have hzw : z.wide = true := hi.dwide
       have hz3 : rel M z ρ .cells zv.cells.toList := rel_cells (.inl hzw) (rel_mono (noMem_le M) _ (noNames_le ρ) hz2)
       have hm := run_mapM_array (P := P) (fun f : Field => do pure (f.offset, <- sizeOf f.type)) (fun f => (f.offset, P.cellsOf f.type)) w a (fun f hf => by
         obtain ⟨_, inf, hinf⟩ := hnm f hf
         simp [run_sizeOf w hinf])
       have hpl : ∀ i x, placeE T fs i = some x -> (a.map fun f => (f.offset, P.cellsOf f.type))[i]? = some x := by
         intro i x hx
         simp only [placeE] at hx
         cases hg : fs[i]? with
         | none => simp [hg] at hx
         | some q =>
           obtain ⟨o, ft⟩ := q
           rw [hg] at hx
           simp only at hx
           cases hft : T ft with
           | none => simp [hft] at hx
           | some j =>
             simp only [hft, Option.some.injEq] at hx
             subst hx
             obtain ⟨inf, z', k1, k2, _⟩ := (hT ft j hft).info
             rw [<- hfs, List.getElem?_map] at hg
             simp only [Option.map_eq_some_iff, Prod.mk.injEq] at hg
             obtain ⟨f, hf, rfl, rfl⟩ := hg
             simp only [Array.getElem?_toList] at hf
             simp [hf, Program.cellsOf, k1, k2]
       obtain ⟨cs', f1, f2, f3, f4⟩ := fill_ok (ev := ev) (placeE T fs) (fun i => (a.map fun f => (f.offset, P.cellsOf f.type))[i]?) hpl _ _ _ _ hr hz3 hb
       refine ⟨.agg cs'.toArray, ?_, wide_rel (by rw [f3, hzw]) f2⟩
       simp only [Instr.build, Sem.run_bind, hz1, Result.andThen_ok, run_underlying hu, hm]
       rw [Array.toList_map]
       rw [show zv.cells = zv.cells.toList.toArray from rfl, f1]
       rfl
end Go.Abs
namespace Go.Abs
variable {P : Program}
def Gives (P : Program) (ev : Operand -> Value) (op : Op) (w : World) (u : Value) : Prop := ∀ o : Oper, o.op = op -> (execOp ev o).run P w = .ok (.value u) w
theorem gives_of {ev : Operand -> Value} {op : Op} {w : World} {u : Value} {s : Sem Value} (h1 : ∀ o : Oper, o.op = op -> execOp ev o = (do pure (.value (<- s)))) (h2 : s.run P w = .ok u w) : Gives P ev op w u := by
 intro o ho
 rw [h1 o ho, Sem.run_bind, h2]; rfl
theorem pick_ok {T : Nat -> Option TI} {M : Mem} {ρ : Names} {e : Operand -> PV} {ev : Operand -> Value} {c a b : Operand} {v : PV} {C : List (Unit -> Prop)} (h : pureE T e (.pick c a b) = some (v, C))
  (hr : ∀ x ∈ [c, a, b], rel M (e x) ρ .val [ev x]) (w : World) : ∃ u, Gives P ev (.pick c a b) w u /\ rel M v ρ .val [u] := by
 have hc := hr c (by simp)
 have ha := hr a (by simp)
 have hb := hr b (by simp)
 have hg : ∀ (q : Bool), ev c = .bool q -> Gives P ev (.pick c a b) w (if q then ev a else ev b) := by
  intro q hq o ho
  simp only [execOp, ho, hq, asBool]
  cases q <;> rfl
 simp only [pureE] at h
 split at h
 ·rename_i hx
  rw [hx] at hc
  simp only [Option.some.injEq, Prod.mk.injEq] at h
  obtain ⟨rfl, rfl⟩ := h
  exact ⟨_, hg true (rel_asB rfl hc), ha⟩
 ·rename_i hx
  rw [hx] at hc
  simp only [Option.some.injEq, Prod.mk.injEq] at h
  obtain ⟨rfl, rfl⟩ := h
  exact ⟨_, hg false (rel_asB rfl hc), hb⟩
 ·rename_i f hx
  rw [hx] at hc
  split at h
  ·rename_i p q hp hq
   simp only [Option.some.injEq, Prod.mk.injEq] at h
   obtain ⟨rfl, rfl⟩ := h
   refine ⟨_, hg (f ()) (rel_asB rfl hc), ?_⟩
   rw [rel_asB hp ha, rel_asB hq hb]
   have : (if f () = true then Value.bool (p ()) else Value.bool (q ())) = .bool (if f () = true then p () else q ()) := by split <;> rfl
   rw [this]
   exact bool_rel rfl
  ·cases h
 ·cases h
theorem field_ok {T : Nat -> Option TI} (hT : TT P T) {M : Mem} {ρ : Names} {e : Operand -> PV} {ev : Operand -> Value} {t : Nat} {x : Operand} {f : Nat} {v : PV} {C : List (Unit -> Prop)}
  (h : pureE T e (.field t x f) = some (v, C)) (hx : rel M (e x) ρ .val [ev x]) (w : World) : ∃ u, Gives P ev (.field t x f) w u /\ rel M v ρ .val [u] := by
 simp only [pureE] at h
 cases ht : T t with
 | none => simp [ht] at h
 | some i =>
   have hi := hT t i ht
   rw [ht] at h
   obtain ⟨td, sz, by_, z⟩ := i
   cases td <;> try (simp at h; done)
   case struct fs =>
     obtain ⟨a, hu, hfs, hnm⟩ := hi.desc
     simp only at h
     split at h
     · rename_i o ft l hf hl
       cases hft : T ft with
       | none => simp [hft] at h
       | some j =>
         rw [hft] at h
         simp only at h
         cases hfd : PV.find j.zero o l with
         | none => simp [hfd] at h
         | some v' =>
           simp only [hfd, Option.some.injEq, Prod.mk.injEq] at h
           obtain ⟨rfl, rfl⟩ := h
           rw [hl] at hx
           obtain ⟨cs, hv, hr⟩ := rel_wide rfl hx
           replace hr : rel M l ρ .cells cs := by rcases hr with ⟨_, hr⟩ | ⟨h', _⟩ <;> first | exact hr | cases h'
           obtain ⟨k1, k2, k3⟩ := find_ok _ _ _ _ hr hfd
           obtain ⟨u, r1, r2⟩ := run_part' (hT ft j hft) k1 k2 k3 w
           refine ⟨u, gives_of (s := Instr.field t (ev x) f) (fun o ho => by simp only [execOp, ho]) ?_, r2⟩
           rw [<- hfs, List.getElem?_map] at hf
           simp only [Option.map_eq_some_iff, Prod.mk.injEq] at hf
           obtain ⟨fl, hfl, rfl, rfl⟩ := hf
           simp only [Array.getElem?_toList] at hfl
           simp only [Instr.field, Sem.run_bind, run_underlying hu, Result.andThen_ok, hfl, hv, asAgg, Sem.run_pure, r1]
     · cases h
theorem byte_at {s : ByteArray} {i : Int} (h0 : 0 <= i) (h1 : i < s.size) : (if 0 <= i then s[i.toNat]? else none) = some (s.data.toList.getD i.toNat 0) := by
 rw [if_pos h0]
 have hlt : i.toNat < s.size := by omega
 rw [getElem?_pos s i.toNat hlt]
 congr 1
 have h2 : i.toNat < s.data.toList.length := by simpa using hlt
 rw [List.getD_eq_getElem?_getD, List.getElem?_eq_getElem h2]
 rfl
theorem litIdx_spec {x : Operand} {c : Nat} (h : litIdx x = some c) (ev : Operand -> Value) (hev : ∀ v, ev (.const v) = v) : ∃ k, ev x = .int k (c : Int) := by
 unfold litIdx at h
 split at h
 ·rename_i k n
  cases hn : (Int.decLt n 0).decide with
  | true => simp [hn] at h
  | false =>
    simp only [hn, cond_false, Option.some.injEq] at h
    refine ⟨k, ?_⟩
    rw [hev]
    have : ¬ n < 0 := by
      intro hlt
      have : (Int.decLt n 0).decide = true := decide_eq_true hlt
      rw [this] at hn; cases hn
    rw [show (c : Int) = n by omega]
 ·cases h
theorem findI_zero {M : Mem} {ρ : Names} {idx : Unit -> Int} {pv v : PV} {n : Nat} {cs : Array Value} (hf : PV.findI idx 0 pv = some (n, v)) (h : rel M pv ρ .cells cs.toList)
  (h0 : 0 <= idx ()) (h1 : idx () < n) : ∃ x, cs[(idx ()).toNat]? = some x /\ rel M v ρ .val [x] := by
 obtain ⟨_, hl, hr⟩ := findI_ok _ _ _ _ _ h hf
 obtain ⟨x, hx, hr⟩ := hr h0 h1
 obtain ⟨y, hy, _, hr'⟩ := rel_leaf hl hr
 obtain rfl : x = y := by simpa using hy
 exact ⟨x, by simpa using hx, hr' .val (by simp)⟩
theorem index_ok {T : Nat -> Option TI} (hT : TT P T) {M : Mem} {ρ : Names} {e : Operand -> PV} {ev : Operand -> Value} (hev : ∀ v, ev (.const v) = v) {t : Nat} {x ix : Operand} {v : PV} {C : List (Unit -> Prop)}
  (h : pureE T e (.index t x ix) = some (v, C)) (hC : ∀ c ∈ C, c ()) (hx : rel M (e x) ρ .val [ev x]) (hi' : rel M (e ix) ρ .val [ev ix]) (w : World) : ∃ u, Gives P ev (.index t x ix) w u /\ rel M v ρ .val [u] := by
 simp only [pureE] at h
 cases ht : T t with
 | none => simp [ht] at h
 | some i =>
   have hi := hT t i ht
   rw [ht] at h
   obtain ⟨td, sz, by_, z⟩ := i
   cases td <;> try (simp at h; done)
   case str =>
     have hu : P.underlying t = some .string := hi.desc
     simp only at h
     split at h
     · rename_i s k i hs hi2
       simp only [Option.some.injEq, Prod.mk.injEq] at h
       obtain ⟨rfl, rfl⟩ := h
       simp only [List.mem_cons, List.not_mem_nil, or_false, forall_eq] at hC
       rw [hs] at hx
       rw [hi2] at hi'
       refine ⟨_, gives_of (s := Instr.index t (ev x) (ev ix)) (fun o ho => by simp only [execOp, ho]) ?_, int_rel rfl⟩
       rw [rel_str hx, rel_int hi']
       simp only [Instr.index, Sem.run_bind, asIntOf, Sem.run_pure, Result.andThen_ok, run_underlying hu, byte_at hC.1 hC.2]
       rfl
     · cases h
   case arr n el =>
     have hu : P.underlying t = some (.array n el) := hi.desc
     simp only at h
     cases he : T el with
     | none => simp [he] at h
     | some ie =>
       have hie := hT el ie he
       rw [he] at h
       simp only at h
       split at h
       · rename_i c hlit
         obtain ⟨k, hk⟩ := litIdx_spec hlit ev hev
         cases hc : (bltN c n && (e x).wide) with
         | false => simp [hc] at h
         | true =>
           simp only [hc, cond_true] at h
           simp only [decide_eq_true_eq, Bool.and_eq_true] at hc
           cases hfd : PV.find ie.zero (c * ie.size) (e x) with
           | none => simp [hfd] at h
           | some v' =>
             simp only [hfd, Option.some.injEq, Prod.mk.injEq] at h
             obtain ⟨rfl, rfl⟩ := h
             obtain ⟨cs, hv, hr⟩ := rel_wide hc.2 hx
             obtain ⟨k1, k2, k3⟩ := find_ok _ _ _ _ hr hfd
             obtain ⟨u, r1, r2⟩ := run_part' hie k1 k2 k3 w
             refine ⟨u, gives_of (s := Instr.index t (ev x) (ev ix)) (fun o ho => by simp only [execOp, ho]) ?_, r2⟩
             rw [hk, hv]
             simp only [Instr.index, Sem.run_bind, asIntOf, Sem.run_pure, Result.andThen_ok, run_underlying hu, run_sizeOf' hie]
             rw [if_pos ⟨by omega, by omega⟩]
             simpa [run_sizeOf' hie] using r1
       · split at h
         · rename_i k j hj
           cases hs1 : (ie.zero.leaf && (e x).wide) with
           | false => simp [hs1] at h
           | true =>
             simp only [hs1, cond_true] at h
             simp only [Bool.and_eq_true] at hs1
             cases hfd : PV.findI j 0 (e x) with
             | none => simp [hfd] at h
             | some q =>
               obtain ⟨m, v'⟩ := q
               rw [hfd] at h
               simp only at h
               cases hm : beqN m n with
               | false => simp [hm] at h
               | true =>
                 simp only [hm, cond_true, Option.some.injEq, Prod.mk.injEq] at h
                 obtain ⟨rfl, rfl⟩ := h
                 obtain rfl : m = n := by simpa using hm
                 simp only [List.mem_cons, List.not_mem_nil, or_false, forall_eq] at hC
                 rw [hj] at hi'
                 obtain ⟨cs, hv, hr⟩ := rel_wide hs1.2 hx
                 obtain ⟨u, r1, r2⟩ := findI_zero (cs := cs.toArray) hfd (by simpa using hr) hC.1 hC.2
                 have hd : ie.d.wide = false := by rw [<- hie.dwide]; exact leaf_not_wide hs1.1
                 refine ⟨u, gives_of (s := Instr.index t (ev x) (ev ix)) (fun o ho => by simp only [execOp, ho]) ?_, r2⟩
                 rw [rel_int hi', hv]
                 simp only [Instr.index, Sem.run_bind, asIntOf, Sem.run_pure, Result.andThen_ok, run_underlying hu]
                 rw [if_pos ⟨hC.1, hC.2⟩]
                 have hsz : ie.size = 1 := by rw [hie.size, leaf_size hs1.1]
                 simp only [Sem.run_bind, run_sizeOf' hie, Result.andThen_ok, hsz, Nat.mul_one]
                 exact part_scalar hie hd r1 w
         · cases h
theorem addr_add (b o n : Nat) : (⟨b, o, none⟩ : Addr).add n = ⟨b, o + n, none⟩ := Addr.add_mid b o n
theorem fieldAddr_ok {T : Nat -> Option TI} (hT : TT P T) {M : Mem} {ρ : Names} {e : Operand -> PV} {ev : Operand -> Value} {t : Nat} {x : Operand} {f : Nat} {v : PV} {C : List (Unit -> Prop)}
  (h : pureE T e (.fieldAddr t x f) = some (v, C)) (hx : rel M (e x) ρ .val [ev x]) (w : World) : ∃ u, Gives P ev (.fieldAddr t x f) w u /\ rel M v ρ .val [u] := by
 simp only [pureE] at h
 cases ht : T t with
 | none => simp [ht] at h
 | some i =>
   have hi := hT t i ht
   rw [ht] at h
   obtain ⟨td, sz, by_, z⟩ := i
   cases td <;> try (simp at h; done)
   case struct fs =>
     obtain ⟨a, hu, hfs, hnm⟩ := hi.desc
     simp only at h
     split at h
     · rename_i o ft hf
       cases hft : T ft with
       | none => simp [hft] at h
       | some j =>
         have hj := hT ft j hft
         rw [hft] at h
         simp only at h
         cases hs0 : beqN j.size 0 with
         | true => simp [hs0] at h
         | false =>
           simp only [hs0, cond_false] at h
           have hne : j.size ≠ 0 := by intro h0; rw [h0] at hs0; cases hs0
           rw [<- hfs, List.getElem?_map] at hf
           simp only [Option.map_eq_some_iff, Prod.mk.injEq] at hf
           obtain ⟨fl, hfl, rfl, rfl⟩ := hf
           simp only [Array.getElem?_toList] at hfl
           have key : ∀ b off, ev x = .pointer (some ⟨b, off, none⟩) -> Gives P ev (.fieldAddr t x f) w (.pointer (some ⟨b, off + fl.offset, none⟩)) := by
             intro b off hb
             refine gives_of (s := Instr.fieldAt t (ev x) f) (fun o ho => by simp only [execOp, ho]) ?_
             rw [hb]
             simp only [Instr.fieldAt, Sem.run_bind, run_underlying hu, Result.andThen_ok, hfl, Instr.sureAddr, Sem.run_pure, fieldPlace, run_sizeOf' hj, if_neg hne, addr_add]
           split at h
           · rename_i id off hp
             simp only [Option.some.injEq, Prod.mk.injEq] at h
             obtain ⟨rfl, rfl⟩ := h
             rw [hp] at hx
             obtain ⟨b, h1, _, h2⟩ := hx
             exact ⟨_, key b off (by simpa using h2), ⟨b, h1, by simp, rfl⟩⟩
           · rename_i esz len g jx off hp
             simp only [Option.some.injEq, Prod.mk.injEq] at h
             obtain ⟨rfl, rfl⟩ := h
             rw [hp] at hx
             obtain ⟨b, base, n, h1, h2, h3, h4, _, h5⟩ := hx
             exact ⟨_, key b _ (by simpa using h5), ⟨b, base, n, h1, h2, h3, h4, by simp, by rw [Nat.add_assoc]⟩⟩
           · cases h
     · cases h
theorem indexAddr_ok {T : Nat -> Option TI} (hT : TT P T) {M : Mem} {ρ : Names} {e : Operand -> PV} {ev : Operand -> Value} (hev : ∀ v, ev (.const v) = v) {t : Nat} {x ix : Operand} {v : PV} {C : List (Unit -> Prop)}
  (h : pureE T e (.indexAddr t x ix) = some (v, C)) (hC : ∀ c ∈ C, c ()) (hx : rel M (e x) ρ .val [ev x]) (hi' : rel M (e ix) ρ .val [ev ix]) (w : World) : ∃ u, Gives P ev (.indexAddr t x ix) w u /\ rel M v ρ .val [u] := by
 simp only [pureE] at h
 cases ht : T t with
 | none => simp [ht] at h
 | some i =>
   have hi := hT t i ht
   rw [ht] at h
   obtain ⟨td, sz, by_, z⟩ := i
   cases td <;> try (simp at h; done)
   case arr n el =>
     have hu : P.underlying t = some (.array n el) := hi.desc
     simp only at h
     cases he : T el with
     | none => simp [he] at h
     | some ie =>
       have hie := hT el ie he
       rw [he] at h
       simp only at h
       have key : ∀ b off k (j : Int), ev x = .pointer (some ⟨b, off, none⟩) -> ev ix = .int k j -> 0 <= j -> j < n -> Gives P ev (.indexAddr t x ix) w (.pointer (some ⟨b, off + j.toNat * ie.size, none⟩)) := by
         intro b off k j hb hk h0 h1
         refine gives_of (s := Instr.indexAt t (ev x) (ev ix)) (fun o ho => by simp only [execOp, ho]) ?_
         rw [hb, hk]
         simp only [Instr.indexAt, Sem.run_bind, asIntOf, Sem.run_pure, Result.andThen_ok, run_underlying hu, Instr.sureAddr]
         rw [if_pos ⟨h0, h1⟩]
         simp only [Sem.run_bind, run_sizeOf' hie, Result.andThen_ok, addr_add, Sem.run_pure]
       split at h
       · rename_i c hlit
         obtain ⟨k, hk⟩ := litIdx_spec hlit ev hev
         cases hc : bltN c n with
         | false => simp [hc] at h
         | true =>
           simp only [hc, cond_true] at h
           simp only [decide_eq_true_eq] at hc
           split at h
           · rename_i id off hp
             simp only [Option.some.injEq, Prod.mk.injEq] at h
             obtain ⟨rfl, rfl⟩ := h
             rw [hp] at hx
             obtain ⟨b, h1, _, h2⟩ := hx
             exact ⟨_, key b off k c (by simpa using h2) hk (by omega) (by omega), ⟨b, h1, by simp, by simp⟩⟩
           · rename_i esz len g jx off hp
             simp only [Option.some.injEq, Prod.mk.injEq] at h
             obtain ⟨rfl, rfl⟩ := h
             rw [hp] at hx
             obtain ⟨b, base, n', h1, h2, h3, h4, _, h5⟩ := hx
             exact ⟨_, key b _ k c (by simpa using h5) hk (by omega) (by omega), ⟨b, base, n', h1, h2, h3, h4, by simp, by simp [Nat.add_assoc]⟩⟩
           · cases h
       · split at h
         · rename_i k j hj
           rw [hj] at hi'
           cases hs1 : beqN ie.size 1 with
           | false => simp [hs1] at h
           | true =>
             simp only [hs1, cond_true] at h
             have hsz : ie.size = 1 := by simpa using hs1
             split at h
             · rename_i id off hp
               simp only [Option.some.injEq, Prod.mk.injEq] at h
               obtain ⟨rfl, rfl⟩ := h
               simp only [List.mem_cons, List.not_mem_nil, or_false, forall_eq] at hC
               rw [hp] at hx
               obtain ⟨b, h1, _, h2⟩ := hx
               refine ⟨_, key b off k (j ()) (by simpa using h2) (rel_int hi') hC.1 hC.2, ⟨b, h1, hC.1, by simp, by simp [hsz]⟩⟩
             · rename_i esz len g jx off hp
               simp only [Option.some.injEq, Prod.mk.injEq] at h
               obtain ⟨rfl, rfl⟩ := h
               simp only [List.mem_cons, List.not_mem_nil, or_false, forall_eq] at hC
               rw [hp] at hx
               obtain ⟨b, base, n', h1, h2, h3, h4, _, h5⟩ := hx
               exact ⟨_, key b _ k (j ()) (by simpa using h5) (rel_int hi') hC.1 hC.2, ⟨b, base, n', h1, h2, h3, hC.1, h4, by simp, by simp [hsz]⟩⟩
             · cases h
         · cases h
   case slice el =>
     have hu : P.underlying t = some (.slice el) := hi.desc
     simp only at h
     cases he : T el with
     | none => simp [he] at h
     | some ie =>
       have hie := hT el ie he
       rw [he] at h
       simp only at h
       split at h
       · rename_i tok esz len f k j hs hj
         cases hz : beqN esz ie.size with
         | false => simp [hz] at h
         | true =>
           simp only [hz, cond_true, Option.some.injEq, Prod.mk.injEq] at h
           obtain ⟨rfl, rfl⟩ := h
           obtain rfl : esz = ie.size := by simpa using hz
           simp only [List.mem_cons, List.not_mem_nil, or_false, forall_eq] at hC
           rw [hs] at hx
           rw [hj] at hi'
           obtain ⟨a, n, cap, ⟨_, hv⟩, h1, h2, h3, h4, h5⟩ := hx
           obtain ⟨b, base, rfl, hrow⟩ := h5 (by omega)
           refine ⟨.pointer (some ⟨b, base + (j ()).toNat * ie.size, none⟩), gives_of (s := Instr.indexAt t (ev x) (ev ix)) (fun o ho => by simp only [execOp, ho]) ?_, ⟨b, base, n, h1, hC.1, hC.2, hrow, by simp, by simp⟩⟩
           rw [show ev x = _ by simpa using hv, rel_int hi']
           simp only [Instr.indexAt, Sem.run_bind, asIntOf, Sem.run_pure, Result.andThen_ok, run_underlying hu]
           rw [if_pos ⟨hC.1, by omega⟩]
           simp only [Sem.run_bind, run_sizeOf' hie, Result.andThen_ok, addr_add, Sem.run_pure]
       · cases h
end Go.Abs
namespace Go.Abs
variable {P : Program}
theorem sliceBound_ok {v : Value} {k : IntKind} {i : Int} (hv : v = .int k i) {y : Nat} (h0 : 0 <= i) (h1 : i <= y) (c : BoundsCode) (w : World) : (Instr.sliceBound v y c).run P w = .ok i.toNat w := by
 subst hv
 simp only [Instr.sliceBound, Sem.run_bind, asIntOf, Sem.run_pure, Result.andThen_ok]
 rw [if_pos ⟨h0, h1⟩]
 rfl
theorem cut_ok {e : Operand -> PV} {ev : Operand -> Value} {M : Mem} {ρ : Names} {lo hi : Option Operand} {len : Unit -> Int} {a b : Unit -> Int} {C : List (Unit -> Prop)} (h : cutE e lo hi len = some (a, b, C))
  (hr : ∀ x ∈ lo.toList ++ hi.toList, rel M (e x) ρ .val [ev x]) (hC : ∀ c ∈ C, c ()) (n cap : Nat) (hn : (n : Int) = len ()) (hc : n <= cap) (isS : Bool) (w : World) :
  (Instr.sliceBounds isS n cap (lo.map ev) (hi.map ev) none).run P w = .ok ((a ()).toNat, (b ()).toNat, cap) w /\ 0 <= a () /\ a () <= b () /\ b () <= len () := by
 unfold cutE at h
 split at h
 ·simp only [Option.some.injEq, Prod.mk.injEq] at h
  obtain ⟨rfl, rfl, rfl⟩ := h
  simp only [List.mem_cons, List.not_mem_nil, or_false, forall_eq] at hC
  refine ⟨?_, Int.le_refl 0, hC, Int.le_refl _⟩
  simp only [Instr.sliceBounds, Option.map_none, Sem.run_bind, Sem.run_pure, Result.andThen_ok]
  rw [<- hn]; rfl
 ·rename_i x
  split at h
  ·rename_i k q hq
   simp only [Option.some.injEq, Prod.mk.injEq] at h
   obtain ⟨rfl, rfl, rfl⟩ := h
   simp only [List.mem_cons, List.not_mem_nil, or_false, forall_eq] at hC
   have hx := hr x (by simp)
   rw [hq] at hx
   refine ⟨?_, by omega, by omega, by omega⟩
   simp only [Instr.sliceBounds, Option.map_none, Option.map_some, Sem.run_bind, Sem.run_pure, Result.andThen_ok, sliceBound_ok (rel_int hx) hC.1 (y := n) (by omega)]
   rw [<- hn]; rfl
  ·cases h
 ·rename_i y
  split at h
  ·rename_i k q hq
   simp only [Option.some.injEq, Prod.mk.injEq] at h
   obtain ⟨rfl, rfl, rfl⟩ := h
   simp only [List.mem_cons, List.not_mem_nil, or_false, forall_eq] at hC
   have hx := hr y (by simp)
   rw [hq] at hx
   refine ⟨?_, Int.le_refl 0, hC.1, hC.2⟩
   simp only [Instr.sliceBounds, Option.map_none, Option.map_some, Sem.run_bind, Sem.run_pure, Result.andThen_ok, sliceBound_ok (rel_int hx) hC.1 (y := cap) (by omega)]
   rfl
  ·cases h
 ·rename_i x y
  split at h
  ·rename_i k q k' q' hq hq'
   simp only [Option.some.injEq, Prod.mk.injEq] at h
   obtain ⟨rfl, rfl, rfl⟩ := h
   simp only [List.mem_cons, List.not_mem_nil, or_false, forall_eq] at hC
   have hx := hr x (by simp)
   have hy := hr y (by simp)
   rw [hq] at hx
   rw [hq'] at hy
   refine ⟨?_, by omega, by omega, by omega⟩
   simp only [Instr.sliceBounds, Option.map_none, Option.map_some, Sem.run_bind, Sem.run_pure, Result.andThen_ok, sliceBound_ok (rel_int hy) (by omega) (y := cap) (by omega)]
   simp only [sliceBound_ok (rel_int hx) hC.1 (y := (q' ()).toNat) (by omega), Result.andThen_ok]
  ·cases h
theorem slice_ok {T : Nat -> Option TI} (hT : TT P T) {M : Mem} {ρ : Names} {e : Operand -> PV} {ev : Operand -> Value} {t : Nat} {x : Operand} {lo hi : Option Operand} {v : PV} {C : List (Unit -> Prop)}
  (h : pureE T e (.slice t x lo hi none) = some (v, C)) (hC : ∀ c ∈ C, c ()) (hx : rel M (e x) ρ .val [ev x]) (hr : ∀ x ∈ lo.toList ++ hi.toList, rel M (e x) ρ .val [ev x]) (w : World) :
  ∃ u, Gives P ev (.slice t x lo hi none) w u /\ rel M v ρ .val [u] := by
 simp only [pureE] at h
 cases ht : T t with
 | none => simp [ht] at h
 | some i =>
   have hi' := hT t i ht
   rw [ht] at h
   obtain ⟨td, sz, by_, z⟩ := i
   cases td <;> try (simp at h; done)
   case str =>
     have hu : P.underlying t = some .string := hi'.desc
     simp only at h
     split at h
     · rename_i s hs
       cases hcut : cutE e lo hi (fun _ => ((s ()).size : Int)) with
       | none => simp [hcut] at h
       | some q =>
         obtain ⟨a, b, C'⟩ := q
         simp only [hcut, Option.some.injEq, Prod.mk.injEq] at h
         obtain ⟨rfl, rfl⟩ := h
         obtain ⟨k1, k2, k3, k4⟩ := cut_ok (P := P) hcut hr hC (s ()).size (s ()).size rfl (Nat.le_refl _) false w
         rw [hs] at hx
         refine ⟨_, gives_of (s := Instr.sliceAt t (ev x) (lo.map ev) (hi.map ev) none) (fun o ho => by simp only [execOp, ho, Option.map_none]) ?_, str_rel rfl⟩
         simp only [Instr.sliceAt, Sem.run_bind, run_underlying hu, Result.andThen_ok, Instr.slice, rel_str hx, Option.isSome_none, Bool.false_eq_true, if_false, k1]
         rfl
     · cases h
   case slice el =>
     have hu : P.underlying t = some (.slice el) := hi'.desc
     simp only at h
     cases he : T el with
     | none => simp [he] at h
     | some ie =>
       have hie := hT el ie he
       rw [he] at h
       simp only at h
       split at h
       · rename_i tok esz len f hs
         cases hz : beqN esz ie.size with
         | false => simp [hz] at h
         | true =>
           simp only [hz, cond_true] at h
           obtain rfl : esz = ie.size := by simpa using hz
           cases hcut : cutE e lo hi len with
           | none => simp [hcut] at h
           | some q =>
             obtain ⟨a, b, C'⟩ := q
             simp only [hcut, Option.some.injEq, Prod.mk.injEq] at h
             obtain ⟨rfl, rfl⟩ := h
             rw [hs] at hx
             obtain ⟨ad, n, cap, ⟨_, hv⟩, h1, h2, h3, h4, h5⟩ := hx
             obtain ⟨k1, k2, k3, k4⟩ := cut_ok (P := P) hcut hr hC n cap h1 h2 true w
             refine ⟨.slice (if cap = (a ()).toNat then ad else ad.map (·.add ((a ()).toNat * ie.size))) ((b ()).toNat - (a ()).toNat) (cap - (a ()).toNat), gives_of (s := Instr.sliceAt t (ev x) (lo.map ev) (hi.map ev) none) (fun o ho => by simp only [execOp, ho, Option.map_none]) ?_, ?_⟩
             · rw [show ev x = _ by simpa using hv]
               simp only [Instr.sliceAt, Sem.run_bind, run_underlying hu, Result.andThen_ok, Instr.slice, k1, run_sizeOf' hie]
               rfl
             · refine ⟨_, _, _, ⟨by simp, rfl⟩, (by show (((b ()).toNat - (a ()).toNat : Nat) : Int) = b () - a (); omega), by omega, by omega, fun id h => (by cases h), fun hpos => ?_⟩
               obtain ⟨bb, base, rfl, hrow⟩ := h5 (by omega)
               refine ⟨bb, base + (a ()).toNat * ie.size, ?_, fun j hj => ?_⟩
               · rw [if_neg (by omega)]
                 simp [addr_add]
               · obtain ⟨cs, l1, l2, l3⟩ := hrow ((a ()).toNat + j) (by omega)
                 refine ⟨cs, l1, ?_, fun q hq => ?_⟩
                 · have e1 : (fun _ : Unit => (((a ()).toNat + j : Nat) : Int)) = fun _ => a () + (j : Int) := by funext _; omega
                   rw [e1] at l2
                   exact l2
                 · rw [<- l3 q hq]
                   congr 1
                   rw [Nat.add_mul]; omega
       · cases h
theorem nth_ok {M : Mem} {ρ : Names} : ∀ (l : PV) (i : Nat) (v : PV) (ws : List Value), PV.nth i l = some v -> rel M l ρ .vals ws -> ∃ u, ws[i]? = some u /\ rel M v ρ .val [u] := by
 intro l
 induction l with
 | cons x r ih1 ih2 =>
   intro i v ws h hr
   rcases hr with ⟨h', _⟩ | ⟨_, u, ws', rfl, h1, h2⟩
   · cases h'
   · cases i with
     | zero =>
       simp only [PV.nth, Option.some.injEq] at h
       subst h
       exact ⟨u, rfl, h1⟩
     | succ i =>
       simp only [PV.nth] at h
       obtain ⟨u', k1, k2⟩ := ih2 i v ws' h h2
       exact ⟨u', by simpa using k1, k2⟩
 | _ => intro i v ws h; cases i <;> simp [PV.nth] at h
theorem ofList_rel {M : Mem} {ρ : Names} {e : Operand -> PV} {ev : Operand -> Value} : ∀ l : List Operand, (∀ x ∈ l, rel M (e x) ρ .val [ev x]) -> rel M (PV.ofList (l.map e)) ρ .vals (l.map ev)
 | [], _ => ⟨by simp, rfl⟩
 | x :: l, h => .inr ⟨rfl, _, _, rfl, h x (by simp), ofList_rel l (fun y hy => h y (by simp [hy]))⟩
theorem len_ok {T : Nat -> Option TI} (hT : TT P T) {M : Mem} {ρ : Names} {t : Nat} {x v : PV} {vx : Value} (h : lenE T t x = some v) (hx : rel M x ρ .val [vx]) (ty : TypeId) (w : World) :
  ∃ u, (Builtin.len_ #[t] ty #[vx]).run P w = .ok u w /\ rel M v ρ .val [u] := by
 unfold lenE at h
 cases ht : T t with
 | none => simp [ht] at h
 | some i =>
   have hi := hT t i ht
   rw [ht] at h
   obtain ⟨td, sz, by_, z⟩ := i
   cases td <;> try (simp at h; done)
   case str =>
     have hu : P.underlying t = some .string := hi.desc
     simp only at h
     split at h
     · simp only [Option.some.injEq] at h
       subst h
       rw [rel_str hx]
       exact ⟨_, by simp only [Builtin.len_, Sem.run_bind, run_underlying hu, Result.andThen_ok, List.getElem?_toArray, List.getElem?_cons_zero, Sem.run_pure]; rfl, int_rel rfl⟩
     · cases h
   case slice el =>
     have hu : P.underlying t = some (.slice el) := hi.desc
     simp only at h
     split at h
     · simp only [Option.some.injEq] at h
       subst h
       obtain ⟨a, n, cap, ⟨_, hv⟩, h1, _⟩ := hx
       rw [show vx = _ by simpa using hv]
       exact ⟨_, by simp only [Builtin.len_, Sem.run_bind, run_underlying hu, Result.andThen_ok, List.getElem?_toArray, List.getElem?_cons_zero, Sem.run_pure]; rfl, int_rel h1.symm⟩
     · simp only [Option.some.injEq] at h
       subst h
       obtain ⟨_, hv⟩ := hx
       rw [show vx = _ by simpa using hv]
       exact ⟨_, by simp only [Builtin.len_, Sem.run_bind, run_underlying hu, Result.andThen_ok, List.getElem?_toArray, List.getElem?_cons_zero, Sem.run_pure]; rfl, int_rel rfl⟩
     · cases h
   case arr n el =>
     have hu : P.underlying t = some (.array n el) := hi.desc
     simp only [Option.some.injEq] at h
     subst h
     refine ⟨goInt n, ?_, int_rel rfl⟩
     simp only [Builtin.len_, Sem.run_bind, run_underlying hu, Result.andThen_ok, List.getElem?_toArray, List.getElem?_cons_zero]
     rfl
theorem built_ok {T : Nat -> Option TI} (hT : TT P T) {M : Mem} {ρ : Names} {e : Operand -> PV} {ev : Operand -> Value} {b : Builtin} {args : Array Operand} {ts : Array TypeId} {v : PV} {C : List (Unit -> Prop)}
  (h : pureE T e (.call ⟨.builtin b, args, ts⟩) = some (v, C)) (hr : ∀ x ∈ args.toList, rel M (e x) ρ .val [ev x]) (w : World) : ∃ u, Gives P ev (.call ⟨.builtin b, args, ts⟩) w u /\ rel M v ρ .val [u] := by
 simp only [pureE] at h
 cases hb : builtE T e b args.toList ts.toList with
 | none => simp [hb] at h
 | some v' =>
   simp only [hb, Option.some.injEq, Prod.mk.injEq] at h
   obtain ⟨rfl, rfl⟩ := h
   obtain ⟨args⟩ := args
   obtain ⟨ts⟩ := ts
   simp only at hb hr
   unfold builtE at hb
   split at hb
   · rename_i x t
     obtain ⟨u, k1, k2⟩ := len_ok hT hb (hr x (by simp)) 0 w
     refine ⟨u, fun o ho => ?_, k2⟩
     obtain ⟨u', k1', _⟩ := len_ok hT hb (hr x (by simp)) o.type w
     have hty : (Builtin.len_ #[t] o.type #[ev x]) = (Builtin.len_ #[t] 0 #[ev x]) := rfl
     simp only [execOp, ho, resolve, Sem.run_bind, Sem.run_pure, Result.andThen_ok, invoke, builtin, List.map_toArray, List.map_cons, List.map_nil, hty, k1]
   · rename_i x y
     unfold maxE at hb
     split at hb
     · rename_i k a k' b' hx hy
       cases hk : decide (k = k') with
       | false => simp [hk] at hb
       | true =>
         simp only [hk, cond_true, Option.some.injEq] at hb
         subst hb
         have h1 := hr x (by simp)
         have h2 := hr y (by simp)
         rw [hx] at h1
         rw [hy] at h2
         refine ⟨.int k (if b' () > a () then b' () else a ()), fun o ho => ?_, int_rel rfl⟩
         simp only [execOp, ho, resolve, Sem.run_bind, Sem.run_pure, Result.andThen_ok, invoke, builtin, List.map_toArray, List.map_cons, List.map_nil, Builtin.max_, List.foldlM_cons, List.foldlM_nil, rel_int h1, rel_int h2, Builtin.max2]
     · cases hb
   · rename_i x y
     unfold minE at hb
     split at hb
     · rename_i k a k' b' hx hy
       cases hk : decide (k = k') with
       | false => simp [hk] at hb
       | true =>
         simp only [hk, cond_true, Option.some.injEq] at hb
         subst hb
         have h1 := hr x (by simp)
         have h2 := hr y (by simp)
         rw [hx] at h1
         rw [hy] at h2
         refine ⟨.int k (if b' () < a () then b' () else a ()), fun o ho => ?_, int_rel rfl⟩
         simp only [execOp, ho, resolve, Sem.run_bind, Sem.run_pure, Result.andThen_ok, invoke, builtin, List.map_toArray, List.map_cons, List.map_nil, Builtin.min_, List.foldlM_cons, List.foldlM_nil, rel_int h1, rel_int h2, Builtin.min2]
     · cases hb
   · cases hb
theorem convert_ok {T : Nat -> Option TI} (hT : TT P T) {M : Mem} {ρ : Names} {e : Operand -> PV} {ev : Operand -> Value} {s t : Nat} {x : Operand} {v : PV} {C : List (Unit -> Prop)}
  (h : pureE T e (.convert s t x) = some (v, C)) (hx : rel M (e x) ρ .val [ev x]) (w : World) : ∃ u, Gives P ev (.convert s t x) w u /\ rel M v ρ .val [u] := by
 simp only [pureE] at h
 split at h
 ·rename_i hs ht hex
  rename_i k n _ _ _ _ _ _
  simp only [Option.some.injEq, Prod.mk.injEq] at h
  obtain ⟨rfl, rfl⟩ := h
  have h1 : P.underlying s = some (.int _) := (hT s _ hs).desc
  have h2 : P.underlying t = some (.int _) := (hT t _ ht).desc
  rw [hex] at hx
  refine ⟨_, gives_of (s := convert s t (ev x)) (fun o ho => by simp only [execOp, ho]) ?_, int_rel rfl⟩
  rw [rel_int hx]
  simp only [convert, Sem.run_bind, run_underlying h1, run_underlying h2, Result.andThen_ok, Conv.intToInt]
  rfl
 ·rename_i hs ht hex
  simp only [Option.some.injEq, Prod.mk.injEq] at h
  obtain ⟨rfl, rfl⟩ := h
  have h1 : P.underlying s = some .string := (hT s _ hs).desc
  have h2 : P.underlying t = some .string := (hT t _ ht).desc
  rw [hex] at hx
  refine ⟨_, gives_of (s := convert s t (ev x)) (fun o ho => by simp only [execOp, ho]) ?_, str_rel rfl⟩
  rw [rel_str hx]
  simp only [convert, Sem.run_bind, run_underlying h1, run_underlying h2, Result.andThen_ok]
  rfl
 ·cases h
theorem nilCheck_ok {T : Nat -> Option TI} {M : Mem} {ρ : Names} {e : Operand -> PV} {ev : Operand -> Value} {x : Operand} {v : PV} {C : List (Unit -> Prop)}
  (h : pureE T e (.nilCheck x) = some (v, C)) (hx : rel M (e x) ρ .val [ev x]) (w : World) : ∃ u, Gives P ev (.nilCheck x) w u /\ rel M v ρ .val [u] := by
 have key1 : ∀ a, ev x = .pointer (some a) -> Gives P ev (.nilCheck x) w (.pointer (some a)) := by
  intro a ha o ho
  simp only [execOp, ho, ha]; rfl
 have key2 : ∀ a, ev x = .map a -> Gives P ev (.nilCheck x) w (.map a) := by
  intro a ha o ho
  simp only [execOp, ho, ha]; rfl
 have key3 : ∀ a n c, ev x = .slice a n c -> Gives P ev (.nilCheck x) w (.slice a n c) := by
  intro a n c ha o ho
  simp only [execOp, ho, ha]; rfl
 simp only [pureE] at h
 split at h
 ·rename_i hp
  rw [hp] at hx
  simp only [Option.some.injEq, Prod.mk.injEq] at h
  obtain ⟨rfl, rfl⟩ := h
  obtain ⟨b, h1, h2, h3⟩ := hx
  exact ⟨_, key1 _ (by simpa using h3), ⟨b, h1, h2, rfl⟩⟩
 ·rename_i hp
  rw [hp] at hx
  simp only [Option.some.injEq, Prod.mk.injEq] at h
  obtain ⟨rfl, rfl⟩ := h
  obtain ⟨b, h1, h0, h2, h3⟩ := hx
  exact ⟨_, key1 _ (by simpa using h3), ⟨b, h1, h0, h2, rfl⟩⟩
 ·rename_i hp
  rw [hp] at hx
  simp only [Option.some.injEq, Prod.mk.injEq] at h
  obtain ⟨rfl, rfl⟩ := h
  obtain ⟨b, base, n, h1, h2, h3, h4, h5, h6⟩ := hx
  exact ⟨_, key1 _ (by simpa using h6), ⟨b, base, n, h1, h2, h3, h4, h5, rfl⟩⟩
 ·rename_i hp
  rw [hp] at hx
  simp only [Option.some.injEq, Prod.mk.injEq] at h
  obtain ⟨rfl, rfl⟩ := h
  obtain ⟨b, base, n, h1, h2, h3, h0, h4, h5, h6⟩ := hx
  exact ⟨_, key1 _ (by simpa using h6), ⟨b, base, n, h1, h2, h3, h0, h4, h5, rfl⟩⟩
 ·rename_i hp
  rw [hp] at hx
  simp only [Option.some.injEq, Prod.mk.injEq] at h
  obtain ⟨rfl, rfl⟩ := h
  obtain ⟨b, h1, h2, h3⟩ := hx
  exact ⟨_, key2 _ (by simpa using h3), ⟨b, h1, h2, rfl⟩⟩
 ·rename_i hp
  rw [hp] at hx
  simp only [Option.some.injEq, Prod.mk.injEq] at h
  obtain ⟨rfl, rfl⟩ := h
  obtain ⟨a, n, cap, ⟨h1, h2⟩, h3⟩ := hx
  exact ⟨_, key3 _ _ _ (by simpa using h2), ⟨a, n, cap, ⟨h1, rfl⟩, h3⟩⟩
 ·cases h
theorem makeInterface_ok {T : Nat -> Option TI} (hT : TT P T) {M : Mem} {ρ : Names} {e : Operand -> PV} {ev : Operand -> Value} {t : Nat} {x : Operand} {v : PV} {C : List (Unit -> Prop)}
  (h : pureE T e (.makeInterface t x) = some (v, C)) (hx : rel M (e x) ρ .val [ev x]) (w : World) : ∃ u, Gives P ev (.makeInterface t x) w u /\ rel M v ρ .val [u] := by
 simp only [pureE] at h
 cases ht : T t with
 | none => simp [ht] at h
 | some i =>
   have hi := hT t i ht
   rw [ht] at h
   obtain ⟨d, hd, _⟩ := hi.some_
   obtain ⟨td, sz, by_, z⟩ := i
   have hgo : (∀ ms, d ≠ .interface ms) -> ∃ u, Gives P ev (.makeInterface t x) w u /\ rel M (.iface t (e x)) ρ .val [u] := by
     intro hne
     refine ⟨.iface t (ev x), gives_of (s := Instr.makeInterface t (ev x)) (fun o ho => by simp only [execOp, ho]) ?_, ⟨_, ⟨by simp, rfl⟩, hx⟩⟩
     simp only [Instr.makeInterface, Sem.run_bind, run_underlying hd, Result.andThen_ok]
     cases d <;> first | rfl | exact absurd rfl (hne _)
   cases td
   case iface => simp at h
   case other => simp at h
   all_goals
     simp only [Option.some.injEq, Prod.mk.injEq] at h
     obtain ⟨rfl, rfl⟩ := h
     refine hgo fun ms hms => ?_
     subst hms
     have := hi.desc
     simp only [TD.fits, hd, Option.some.injEq, reduceCtorEq, false_and, exists_false, exists_const] at this
theorem extract_ok {T : Nat -> Option TI} {M : Mem} {ρ : Names} {e : Operand -> PV} {ev : Operand -> Value} {x : Operand} {i : Nat} {v : PV} {C : List (Unit -> Prop)}
  (h : pureE T e (.extract x i) = some (v, C)) (hx : rel M (e x) ρ .val [ev x]) (w : World) : ∃ u, Gives P ev (.extract x i) w u /\ rel M v ρ .val [u] := by
 simp only [pureE] at h
 split at h
 ·rename_i l hl
  cases hn : PV.nth i l with
  | none => simp [hn] at h
  | some v' =>
    simp only [hn, Option.some.injEq, Prod.mk.injEq] at h
    obtain ⟨rfl, rfl⟩ := h
    rw [hl] at hx
    obtain ⟨_, ws, hv, hw⟩ := hx
    obtain ⟨u, k1, k2⟩ := nth_ok _ _ _ _ hn hw
    refine ⟨u, gives_of (s := Instr.extract (ev x) i) (fun o ho => by simp only [execOp, ho]) ?_, k2⟩
    rw [show ev x = _ by simpa using hv]
    simp only [Instr.extract, List.getElem?_toArray, k1]
    rfl
 ·cases h
theorem makeFunc_ok {T : Nat -> Option TI} {M : Mem} {ρ : Names} {e : Operand -> PV} {ev : Operand -> Value} {fn : Fn} {first captured : Array Operand} {v : PV} {C : List (Unit -> Prop)}
  (h : pureE T e (.makeFunc fn first captured) = some (v, C)) (hr : ∀ x ∈ first.toList ++ captured.toList, rel M (e x) ρ .val [ev x]) (w : World) :
  ∃ u, Gives P ev (.makeFunc fn first captured) w u /\ rel M v ρ .val [u] := by
 simp only [pureE, Option.some.injEq, Prod.mk.injEq] at h
 obtain ⟨rfl, rfl⟩ := h
 refine ⟨_, gives_of (s := Instr.makeFunc fn (first.map ev) (captured.map ev)) (fun o ho => by simp only [execOp, ho]) rfl, ?_⟩
 refine ⟨first.toList.map ev, captured.toList.map ev, ⟨by simp, by rw [<- Array.toList_map, <- Array.toList_map]⟩, ofList_rel _ (fun x hx => hr x ?_), ofList_rel _ (fun x hx => hr x ?_)⟩
 ·exact List.mem_append.2 (.inl hx)
 ·exact List.mem_append.2 (.inr hx)
theorem pureE_ok {T : Nat -> Option TI} (hT : TT P T) {M : Mem} {ρ : Names} {e : Operand -> PV} {ev : Operand -> Value} (hev : ∀ v, ev (.const v) = v) {op : Op} {v : PV} {C : List (Unit -> Prop)}
  (h : pureE T e op = some (v, C)) (hC : ∀ c ∈ C, c ()) (hr : ∀ x ∈ op.operands.toList, rel M (e x) ρ .val [ev x]) (w : World) : ∃ u, Gives P ev op w u /\ rel M v ρ .val [u] := by
 cases op
 case move x =>
  simp only [pureE, Option.some.injEq, Prod.mk.injEq] at h
  obtain ⟨rfl, rfl⟩ := h
  exact ⟨_, fun o ho => by simp only [execOp, ho]; rfl, hr x (by simp [Op.operands])⟩
 case assign x =>
  simp only [pureE, Option.some.injEq, Prod.mk.injEq] at h
  obtain ⟨rfl, rfl⟩ := h
  exact ⟨_, fun o ho => by simp only [execOp, ho]; rfl, hr x (by simp [Op.operands])⟩
 case pick c a b => exact pick_ok h (by simpa [Op.operands] using hr) w
 case build t parts =>
  obtain ⟨u, k1, k2⟩ := build_ok hT h (fun x hx => hr x.2 (List.mem_map.2 ⟨x, hx, rfl⟩)) w
  exact ⟨u, gives_of (s := Instr.build t (parts.map fun (i, x) => (i, ev x))) (fun o ho => by simp only [execOp, ho]) k1, k2⟩
 case field t x f => exact field_ok hT h (hr x (by simp [Op.operands])) w
 case index t x ix => exact index_ok hT hev h hC (hr x (by simp [Op.operands])) (hr ix (by simp [Op.operands])) w
 case fieldAddr t x f => exact fieldAddr_ok hT h (hr x (by simp [Op.operands])) w
 case indexAddr t x ix => exact indexAddr_ok hT hev h hC (hr x (by simp [Op.operands])) (hr ix (by simp [Op.operands])) w
 case binOp op t x y ty =>
  simp only [pureE] at h
  obtain ⟨u, k1, k2⟩ := binE_ok hT h hC (hr x (by simp [Op.operands])) (hr y (by simp [Op.operands])) x y w
  exact ⟨u, gives_of (s := do eqGuard op t x y (ev x) (ev y); binOp op t (ev x) (ev y)) (fun o ho => by simp only [execOp, ho]) k1, k2⟩
 case unOp op t x =>
  simp only [pureE] at h
  cases hu : unE op (e x) with
  | none => simp [hu] at h
  | some v' =>
    simp only [hu, Option.some.injEq, Prod.mk.injEq] at h
    obtain ⟨rfl, rfl⟩ := h
    obtain ⟨u, k1, k2⟩ := unE_ok (P := P) hu (hr x (by simp [Op.operands])) w
    exact ⟨u, gives_of (s := Op.unary op (ev x)) (fun o ho => by simp only [execOp, ho]) k1, k2⟩
 case convert s t x => exact convert_ok hT h (hr x (by simp [Op.operands])) w
 case makeFunc fn first captured =>
  exact makeFunc_ok h (fun x hx => hr x (by simpa only [Op.operands, Array.toList_append] using hx)) w
 case slice t x lo hi mx =>
  cases mx with
  | some m => simp only [pureE, reduceCtorEq] at h
  | none =>
    have e1 : (Op.slice t x lo hi none).operands.toList = x :: (lo.toList ++ hi.toList) := by simp [Op.operands]
    rw [e1] at hr
    exact slice_ok hT h hC (hr x (by simp)) (fun y hy => hr y (List.mem_cons_of_mem _ hy)) w
 case extract x i => exact extract_ok h (hr x (by simp [Op.operands])) w
 case nilCheck x => exact nilCheck_ok h (hr x (by simp [Op.operands])) w
 case makeInterface t x => exact makeInterface_ok hT h (hr x (by simp [Op.operands])) w
 case call c =>
  obtain ⟨cal, args, ts⟩ := c
  cases cal with
  | builtin b => exact built_ok hT h (fun x hx => hr x (by simpa [Op.operands, Call.operands] using hx)) w
  | value f => simp only [pureE, reduceCtorEq] at h
  | invoke a b => simp only [pureE, reduceCtorEq] at h
 all_goals (simp only [pureE, reduceCtorEq] at h)
end Go.Abs
namespace Go.Abs
variable {P : Program} {G : Gs}
def OpR (P : Program) (ev : Operand -> Value) (o : Oper) (w : World) (R : Value -> World -> Prop) : Prop :=
 match (execOp ev o).run P w with
 | .ok (.value v) w' => R v w'
 | .ok .skip w' => R Go.undef w'
 | .ok (.enter f args) w' => Calls P f args w' fun e w'' => ∃ v, e = .returned v /\ R v w''
 | .ok (.row row args) w' => Rows P row args w' R
 | .ok (.round l f tmps assign body) w' => RoundIn Fence.wide 0 P l f tmps assign body w' fun e w'' => ∃ v, e = .returned v /\ R v w''
 | _ => False
def updW : Sto -> List (Nat × Option SObj) -> Sto
 | g, [] => g
 | g, (id, o) :: r => updW (fun j => if j = id then o else g j) r
def GOK (G : Gs) (M : Mem) : Prop := (∀ g, rel M (G.val g) noNames .val [.pointer (some ⟨g, 0, none⟩)]) /\ G.facts M
theorem GOK.mono {G : Gs} {M M' : Mem} (h : GOK G M) (hM : M.le M') : GOK G M' := ⟨fun g => rel_mono hM _ (Names.le_refl _) (h.1 g), G.mono M M' hM h.2⟩
def EffOK (P : Program) (G : Gs) (e : Operand -> PV) (g : Sto) (n : Nat) (op : Op) (E : Eff) : Prop :=
 n <= E.n /\ (∀ x ∈ E.W, x.1 ∈ E.F \/ (n <= x.1 /\ x.1 < E.n)) /\
 ∀ (o : Oper) (M : Mem) (ρ : Names) (w : World) (ev : Operand -> Value), o.op = op -> (∀ v, ev (.const v) = v) -> Inv M ρ (only g E.F) w -> (∀ id, n <= id -> id < E.n -> ρ id = none) ->
   (∀ x ∈ op.operands.toList, rel M (e x) ρ .val [ev x]) -> (∀ c ∈ E.C, c ()) -> GOK G M ->
   OpR P ev o w fun v' w' => ∃ M' ρ', Adv M ρ (only g E.F) w n E.n M' ρ' (updW (only g E.F) E.W) w' /\ Inv M' ρ' (updW (only g E.F) E.W) w' /\ rel M' E.v ρ' .val [v']
theorem EffOK.of_gives {e : Operand -> PV} {g : Sto} {n : Nat} {op : Op} {v : PV} {F : List Nat} {C : List (Unit -> Prop)}
  (h : ∀ (M : Mem) (ρ : Names) (w : World) (ev : Operand -> Value), (∀ v, ev (.const v) = v) -> Inv M ρ (only g F) w -> (∀ x ∈ op.operands.toList, rel M (e x) ρ .val [ev x]) -> (∀ c ∈ C, c ()) ->
   ∃ u, Gives P ev op w u /\ rel M v ρ .val [u]) : EffOK P G e g n op { v, F, n, C } := by
 refine ⟨Nat.le_refl _, fun x hx => (by cases hx), fun o M ρ w ev ho hev hI hfree hr hC hG => ?_⟩
 obtain ⟨u, h1, h2⟩ := h M ρ w ev hev hI hr hC
 unfold OpR
 rw [h1 o ho]
 exact ⟨M, ρ, Adv.refl _ _ _ _ _, hI, h2⟩
theorem alloc_heap_new (w : World) (o : Obj) : (w.alloc o).heap[w.heap.size]? = some o := by show (w.heap.push o)[w.heap.size]? = _; simp
theorem alloc_heap_old (w : World) (o : Obj) {k : Nat} (h : k < w.heap.size) : (w.alloc o).heap[k]? = w.heap[k]? := RowKit.Below.heap_alloc w o k h
theorem cell_lt {w : World} {b i : Nat} {v : Value} (h : w.cell? ⟨b, i, none⟩ = some v) : b < w.heap.size := by
 unfold World.cell? at h
 simp only at h
 split at h
 ·rename_i hb; exact lt_of_get hb
 ·cases h
theorem Inv.mem_lt {M ρ g w} (h : Inv M ρ g w) {b i : Nat} {v : Value} (hm : M b i = some v) : b < w.heap.size := cell_lt (h.mem b i v hm)
theorem Inv.mem_new {M ρ g w} (h : Inv M ρ g w) (i : Nat) : M w.heap.size i = none := by
 cases hm : M w.heap.size i with
 | none => rfl
 | some v => exact absurd (h.mem_lt hm) (by omega)
def bind1 (ρ : Names) (n : Nat) (v : Value) : Names := ⟨fun id => if id = n then some v else ρ id, ρ.K⟩
theorem le_bind1 {ρ : Names} {n : Nat} (h : ρ n = none) (v : Value) : ρ.le (bind1 ρ n v) := by
 intro i u hu
 unfold bind1
 show (if i = n then some v else ρ i) = some u
 split
 ·rename_i e; subst e; rw [h] at hu; cases hu
 ·exact hu
theorem bind1_same (ρ : Names) (n : Nat) (v : Value) : bind1 ρ n v n = some v := by simp [bind1]
theorem one_obj {g : Sto} {id : Nat} {o : SObj} {F : List Nat} (hF : F = [] \/ F = [id]) : ∀ i o', updW (only g F) [(id, some o)] i = some o' -> i = id /\ o' = o := by
 intro i o' ho
 simp only [updW] at ho
 split at ho
 ·exact ⟨‹_›, by simpa using ho.symm⟩
 ·rename_i hne
  rcases hF with rfl | rfl <;> simp [only, hne] at ho
theorem new_obj {M : Mem} {ρ : Names} {g : Sto} {w : World} {n : Nat} (hI : Inv M ρ (only g []) w) (hn : ρ n = none) {o : SObj} {ob : Obj} {v : Value} (hv : nblk v = some w.heap.size) (hG : o.isG = false)
  (hok : o.ok M (bind1 ρ n v) (w.alloc ob) v) :
  Adv M ρ (only g []) w n (n + 1) M (bind1 ρ n v) (updW (only g []) [(n, some o)]) (w.alloc ob) /\
  Inv M (bind1 ρ n v) (updW (only g []) [(n, some o)]) (w.alloc ob) := by
 have hle := le_bind1 hn v
 have hg : ∀ id o', updW (only g []) [(n, some o)] id = some o' -> id = n /\ o' = o := one_obj (.inl rfl)
 have hat : at? (bind1 ρ n v) n = some w.heap.size := by simp [at?, bind1, hv]
 have hA : Adv M ρ (only g []) w n (n + 1) M (bind1 ρ n v) (updW (only g []) [(n, some o)]) (w.alloc ob) := by
  refine ⟨Mem.le_refl _, hle, fun id h0 h1 => ?_, rfl, rfl, rfl, (by show _ <= (w.heap.push _).size; simp), fun b hb _ => alloc_heap_old w _ hb, fun b ⟨id, o', ho, hb⟩ => ?_, fun b i h1 h0 => absurd h0 h1,
   fun _ => ⟨rfl, fun id o' ho => by rw [(hg id o' ho).2]; exact hG⟩, rfl⟩
  ·change (if id = n then some v else ρ id) ≠ none at h1
   split at h1
   ·omega
   ·exact absurd h0 h1
  ·obtain ⟨rfl, rfl⟩ := hg id o' ho
   rw [has_at hG, hat] at hb
   simp only [Option.some.injEq] at hb
   exact .inl (by omega)
 refine ⟨hA, ⟨fun b i v hm => ?_, fun id o' ho => ?_, fun id id' o1 o2 ho ho' hne => ?_, fun id id' o1 o2 ho ho' h1 h2 => (hg id o1 ho).1.trans (hg id' o2 ho').1.symm, hA.stat hI⟩⟩
 ·rw [cell_of_heap (alloc_heap_old w _ (hI.mem_lt hm))]
  exact hI.mem b i v hm
 ·obtain ⟨rfl, rfl⟩ := hg id o' ho
  exact ⟨v, bind1_same _ _ _, hok⟩
 ·exact absurd ((hg id o1 ho).1.trans (hg id' o2 ho').1.symm) hne
theorem new_var {M : Mem} {ρ : Names} {g : Sto} {w : World} {n : Nat} (hI : Inv M ρ (only g []) w) (hn : ρ n = none) {pv : PV} {cs : Array Value} (hr : rel M pv ρ .cells cs.toList) (t : TypeId) :
  Adv M ρ (only g []) w n (n + 1) M (bind1 ρ n (.pointer (some ⟨w.heap.size, 0, none⟩))) (updW (only g []) [(n, some (.var pv))]) (w.alloc (.cells cs t)) /\
  Inv M (bind1 ρ n (.pointer (some ⟨w.heap.size, 0, none⟩))) (updW (only g []) [(n, some (.var pv))]) (w.alloc (.cells cs t)) :=
 new_obj hI hn rfl rfl ⟨w.heap.size, cs, t, rfl, alloc_heap_new w _, rel_mono (Mem.le_refl _) _ (le_bind1 hn _) hr, hI.mem_new⟩
theorem alloc_ok {T : Nat -> Option TI} (hT : TT P T) {e : Operand -> PV} {g : Sto} {n t : Nat} {E : Eff} (h : opE T e g n (.alloc t) = some E) : EffOK P G e g n (.alloc t) E := by
 simp only [opE] at h
 cases ht : T t with
 | none => simp [ht] at h
 | some i =>
   have hi := hT t i ht
   simp only [ht, Option.some.injEq] at h
   subst h
   refine ⟨by simp, fun x hx => .inr (by simp at hx; subst hx; simp), fun o M ρ w ev ho hev hI hfree hr hC hG => ?_⟩
   obtain ⟨z, hz1, hz2⟩ := run_zero hi w
   have hz := rel_cells hi.wide (rel_mono (noMem_le M) _ (noNames_le ρ) hz2)
   obtain ⟨h1, h2⟩ := new_var hI (hfree n (Nat.le_refl _) (Nat.lt_succ_self _)) hz t
   unfold OpR
   simp only [execOp, ho, Instr.alloc, Sem.run_bind, hz1, Result.andThen_ok, newVar, newRow, run_newObj, Sem.run_pure]
   exact ⟨M, _, h1, h2, ⟨w.heap.size, by simp [bind1], by simp, rfl⟩⟩
theorem box_ok {T : Nat -> Option TI} {e : Operand -> PV} {g : Sto} {n t : Nat} {x : Operand} {E : Eff} (h : opE T e g n (.box t x) = some E) : EffOK P G e g n (.box t x) E := by
 simp only [opE] at h
 cases hw : ((e x).wide || (e x).leaf) with
 | false => simp [hw] at h
 | true =>
   simp only [hw, cond_true, Option.some.injEq] at h
   subst h
   refine ⟨by simp, fun x hx => .inr (by simp at hx; subst hx; simp), fun o M ρ w ev ho hev hI hfree hr hC hG => ?_⟩
   have hz := rel_cells (by simpa using hw) (hr x (by simp [Op.operands]))
   obtain ⟨h1, h2⟩ := new_var hI (hfree n (Nat.le_refl _) (Nat.lt_succ_self _)) hz t
   unfold OpR
   simp only [execOp, ho, Instr.box, Sem.run_bind, Result.andThen_ok, newVar, newRow, run_newObj, Sem.run_pure]
   exact ⟨M, _, h1, h2, ⟨w.heap.size, by simp [bind1], by simp, rfl⟩⟩
theorem load_at {t : TypeId} {i : TI} (hi : TOK P t i) {M : Mem} {ρ : Names} {v : PV} {cs : List Value} {w : World} {b o : Nat} (hc : ∀ j u, cs[j]? = some u -> w.cell? ⟨b, o + j, none⟩ = some u)
  (hv : rel M v ρ .cells cs) (hs : sameShape v i.zero = true \/ (v.leaf = true /\ i.zero.leaf = true)) :
  ∃ u, (Instr.loadAt t (.pointer (some ⟨b, o, none⟩))).run P w = .ok u w /\ rel M v ρ .val [u] := by
 obtain ⟨h1, h2, h3⟩ := shape_wide hi.wide hs
 have hlen := rel_size _ hv
 cases hw : i.zero.wide with
 | true =>
   obtain ⟨d, hd1, hd2⟩ := hi.some_
   obtain ⟨inf, z, k1, k2, _⟩ := hi.info
   refine ⟨.agg cs.toArray, run_loadAt_mid w b o t cs d hc hd1 (by rw [hd2, hw]) ?_, wide_rel (by rw [h1, hw]) hv⟩
   simp only [k1, Option.map_some, k2, hi.size, <- h3, hlen]
 | false =>
   have hl : v.leaf = true := by rw [h2]; rcases hi.wide with h' | h'; rw [hw] at h'; cases h'; exact h'
   obtain ⟨u, rfl, _, hr⟩ := rel_leaf hl hv
   refine ⟨u, ?_, hr .val (by simp)⟩
   have := hc 0 u rfl
   simp only [Nat.add_zero] at this
   simp only [Instr.loadAt, Instr.sureAddr, Sem.run_bind, Sem.run_pure, Result.andThen_ok, loadVar, run_isAgg hi, hw, Bool.false_eq_true, if_false, run_load, this]
theorem cells_of_block {w : World} {b : Nat} {c : Array Value} {t : TypeId} {fr : Nat × Nat} (h : w.heap[b]? = some (.cells c t fr)) (i : Nat) : w.cell? ⟨b, i, none⟩ = c[i]? := by
 simp [World.cell?, h]
theorem row_at {M : Mem} {b base esz n : Nat} {f : (Unit -> Int) -> PV} (h : row M b base esz n f) (i : Unit -> Int) (h0 : 0 <= i ()) (h1 : i () < n) :
  ∃ cs, cs.length = esz /\ rel M (f i) noNames .cells cs /\ ∀ q u, cs[q]? = some u -> M b (base + (i ()).toNat * esz + q) = some u := by
 obtain ⟨cs, k1, k2, k3⟩ := h (i ()).toNat (by omega)
 refine ⟨cs, k1, ?_, fun q u hu => ?_⟩
 ·have : (fun _ : Unit => ((i ()).toNat : Int)) = i := by funext u; show ((i ()).toNat : Int) = i (); omega
  rw [this] at k2; exact k2
 ·have hq : q < cs.length := (List.getElem?_eq_some_iff.1 hu).1
  rw [k3 q (by omega), hu]
theorem loadE_ok {T : Nat -> Option TI} (hT : TT P T) {g : Sto} {t : Nat} {p v : PV} {F : List Nat} {C : List (Unit -> Prop)} (h : loadE T g t p = some (v, F, C)) (hC : ∀ c ∈ C, c ())
  {M : Mem} {ρ : Names} {w : World} (hI : Inv M ρ (only g F) w) {vp : Value} (hp : rel M p ρ .val [vp]) :
  ∃ u, (Instr.loadAt t vp).run P w = .ok u w /\ rel M v ρ .val [u] := by
 unfold loadE at h
 cases ht : T t with
 | none => simp [ht] at h
 | some i =>
   have hi := hT t i ht
   rw [ht] at h
   simp only at h
   split at h
   · rename_i id off
     split at h
     · rename_i pv hg
       cases hf : PV.find i.zero off pv with
       | none => simp [hf] at h
       | some v' =>
         simp only [hf, Option.some.injEq, Prod.mk.injEq] at h
         obtain ⟨rfl, rfl, rfl⟩ := h
         obtain ⟨vv, hv, b, c, ty, rfl, h1, h2, h3⟩ := hI.obj id (.var pv) (by simp [only, hg])
         obtain ⟨b', hb1, _, hb2⟩ := hp
         rw [hv] at hb1
         simp only [Option.some.injEq, Value.pointer.injEq, Addr.mk.injEq, and_true] at hb1
         subst hb1
         rw [show vp = _ by simpa using hb2]
         obtain ⟨k1, k2, k3⟩ := find_ok _ _ _ _ h2 hf
         refine load_at hi (fun j u hu => ?_) k2 k3
         have hj : j < v'.size := by have := (List.getElem?_eq_some_iff.1 hu).1; rw [seg_length k1] at this; exact this
         rw [seg_get hj] at hu
         rw [cells_of_block h1]
         simpa using hu
     · cases h
   · rename_i id off j
     split at h
     · rename_i pv hg
       cases hf : PV.findI j off pv with
       | none => simp [hf] at h
       | some q =>
         obtain ⟨m, v'⟩ := q
         rw [hf] at h
         simp only at h
         cases hl : i.zero.leaf with
         | false => simp [hl] at h
         | true =>
           simp only [hl, cond_true, Option.some.injEq, Prod.mk.injEq] at h
           obtain ⟨rfl, rfl, rfl⟩ := h
           simp only [List.mem_cons, List.not_mem_nil, or_false, forall_eq] at hC
           obtain ⟨vv, hv, b, c, ty, rfl, h1, h2, h3⟩ := hI.obj id (.var pv) (by simp [only, hg])
           obtain ⟨b', hb1, _, _, hb2⟩ := hp
           rw [hv] at hb1
           simp only [Option.some.injEq, Value.pointer.injEq, Addr.mk.injEq, and_true] at hb1
           subst hb1
           rw [show vp = _ by simpa using hb2]
           obtain ⟨k1, k2, k3⟩ := findI_ok _ _ _ _ _ h2 hf
           obtain ⟨x, hx, hr⟩ := k3 hC.1 hC.2
           refine load_at hi (cs := [x]) (fun q u hu => ?_) hr (.inr ⟨k2, hl⟩)
           cases q with
           | zero =>
             simp only [List.getElem?_cons_zero, Option.some.injEq] at hu
             subst hu
             rw [cells_of_block h1]
             simpa using hx
           | succ q => simp at hu
     · cases h
   · rename_i esz len f j off
     cases hf : PV.find i.zero off (f j) with
     | none => simp [hf] at h
     | some v' =>
       simp only [hf, Option.some.injEq, Prod.mk.injEq] at h
       obtain ⟨rfl, rfl, rfl⟩ := h
       obtain ⟨b, base, n, h1, h2, h3, h4, _, h5⟩ := hp
       rw [show vp = _ by simpa using h5]
       obtain ⟨cs, l1, l2, l3⟩ := row_at (n := n) h4 j h2 (by omega)
       obtain ⟨k1, k2, k3⟩ := find_ok _ _ _ _ l2 hf
       have key : ∀ q u, (seg cs off v'.size)[q]? = some u -> w.cell? ⟨b, base + (j ()).toNat * esz + off + q, none⟩ = some u := by
         intro q u hu
         have hq : q < v'.size := by have := (List.getElem?_eq_some_iff.1 hu).1; rw [seg_length k1] at this; exact this
         rw [seg_get hq] at hu
         have := hI.mem _ _ _ (l3 (off + q) u hu)
         rw [<- Nat.add_assoc] at this
         exact this
       obtain ⟨u, r1, r2⟩ := load_at (w := w) (b := b) (o := base + (j ()).toNat * esz + off) hi key k2 k3
       exact ⟨u, r1, rel_mono (Mem.le_refl _) _ (noNames_le ρ) r2⟩
   · rename_i esz len f j off q
     cases hf : PV.findI q off (f j) with
     | none => simp [hf] at h
     | some r =>
       obtain ⟨m, v'⟩ := r
       rw [hf] at h
       simp only at h
       cases hl : i.zero.leaf with
       | false => simp [hl] at h
       | true =>
         simp only [hl, cond_true, Option.some.injEq, Prod.mk.injEq] at h
         obtain ⟨rfl, rfl, rfl⟩ := h
         simp only [List.mem_cons, List.not_mem_nil, or_false, forall_eq] at hC
         obtain ⟨b, base, n, h1, h2, h3, h0, h4, _, h5⟩ := hp
         rw [show vp = _ by simpa using h5]
         obtain ⟨cs, l1, l2, l3⟩ := row_at (n := n) h4 j h2 (by omega)
         obtain ⟨k1, k2, k3⟩ := findI_ok _ _ _ _ _ l2 hf
         obtain ⟨x, hx, hr⟩ := k3 hC.1 hC.2
         have key : ∀ p u, [x][p]? = some u -> w.cell? ⟨b, base + (j ()).toNat * esz + off + (q ()).toNat + p, none⟩ = some u := by
           intro p u hu
           cases p with
           | zero =>
             simp only [List.getElem?_cons_zero, Option.some.injEq] at hu
             subst hu
             have := hI.mem _ _ _ (l3 _ x hx)
             rw [<- Nat.add_assoc] at this
             exact this
           | succ p => simp at hu
         obtain ⟨u, r1, r2⟩ := load_at (w := w) (b := b) (o := base + (j ()).toNat * esz + off + (q ()).toNat) hi key hr (.inr ⟨k2, hl⟩)
         exact ⟨u, r1, rel_mono (Mem.le_refl _) _ (noNames_le ρ) r2⟩
   · cases h
theorem load_ok {T : Nat -> Option TI} (hT : TT P T) {e : Operand -> PV} {g : Sto} {n t : Nat} {a : Operand} {E : Eff} (h : opE T e g n (.load t a) = some E) : EffOK P G e g n (.load t a) E := by
 simp only [opE] at h
 cases hl : loadE T g t (e a) with
 | none => simp [hl] at h
 | some q =>
   obtain ⟨v, F, C⟩ := q
   simp only [hl, Option.some.injEq] at h
   subst h
   refine EffOK.of_gives fun M ρ w ev hev hI hr hC => ?_
   obtain ⟨u, h1, h2⟩ := loadE_ok hT hl hC hI (hr a (by simp [Op.operands]))
   exact ⟨u, gives_of (s := Instr.loadAt t (ev a)) (fun o ho => by simp only [execOp, ho]) h1, h2⟩
theorem rel_one {M : Mem} : ∀ (pv : PV) {ρ : Names} {cs : List Value}, rel M pv ρ .cells cs -> ∀ v ∈ cs, v.oneCell' = true := by
 intro pv
 induction pv with
 | agg l ih =>
   intro ρ cs h
   rcases h with ⟨_, h⟩ | ⟨h, _⟩
   · exact ih h
   · cases h
 | cons x r ih1 ih2 =>
   intro ρ cs h v hv
   rcases h with ⟨_, c, d, rfl, h1, h2⟩ | ⟨h, _⟩
   · rcases List.mem_append.1 hv with hv | hv
     · exact ih1 h1 v hv
     · exact ih2 h2 v hv
   · cases h
 | arrI k n l =>
   intro ρ cs ⟨_, h⟩ v hv
   rcases h with ⟨_, rfl⟩ | ⟨h, _⟩
   · obtain ⟨x, _, rfl⟩ := List.mem_map.1 hv; rfl
   · cases h
 | arrB n l =>
   intro ρ cs ⟨_, h⟩ v hv
   rcases h with ⟨_, rfl⟩ | ⟨h, _⟩
   · obtain ⟨x, _, rfl⟩ := List.mem_map.1 hv; rfl
   · cases h
 | arrS n l =>
   intro ρ cs ⟨_, h⟩ v hv
   rcases h with ⟨_, rfl⟩ | ⟨h, _⟩
   · obtain ⟨x, _, rfl⟩ := List.mem_map.1 hv; rfl
   · cases h
 | undef => intro ρ cs ⟨h, _⟩; cases h
 | tuple l ih => intro ρ cs ⟨h, _⟩; cases h
 | nil => intro ρ cs ⟨_, h⟩ v hv; rw [h] at hv; cases hv
 | ptr id off => intro ρ cs ⟨b, _, _, h⟩ v hv; rw [h] at hv; simp at hv; subst hv; rfl
 | ptri id off idx => intro ρ cs ⟨b, _, _, _, h⟩ v hv; rw [h] at hv; simp at hv; subst hv; rfl
 | map id => intro ρ cs ⟨b, _, _, h⟩ v hv; rw [h] at hv; simp at hv; subst hv; rfl
 | eptr esz len f i off ih => intro ρ cs ⟨b, base, n, _, _, _, _, _, h⟩ v hv; rw [h] at hv; simp at hv; subst hv; rfl
 | eptri esz len f i off idx ih => intro ρ cs ⟨b, base, n, _, _, _, _, _, _, h⟩ v hv; rw [h] at hv; simp at hv; subst hv; rfl
 | slice tok esz len f ih => intro ρ cs ⟨a, n, cap, ⟨_, h⟩, _⟩ v hv; rw [h] at hv; simp at hv; subst hv; rfl
 | func fn first captured ih1 ih2 => intro ρ cs ⟨fs, ws, ⟨_, h⟩, _⟩ v hv; rw [h] at hv; simp at hv; subst hv; rfl
 | iface t x ih => intro ρ cs ⟨u, ⟨_, h⟩, _⟩ v hv; rw [h] at hv; simp at hv; subst hv; rfl
 | _ => intro ρ cs ⟨_, h⟩ v hv; rw [h] at hv; simp at hv; subst hv; rfl
theorem putI_leaf {idx : Unit -> Int} {z : PV} : ∀ (pv : PV) (off : Nat) (q : Nat × PV), PV.putI idx z off pv = some q -> z.leaf = true := by
 intro pv
 induction pv with
 | agg l ih =>
   intro off q h
   simp only [PV.putI] at h
   cases hl : PV.putI idx z off l with
   | none => simp [hl] at h
   | some r => exact ih _ _ hl
 | cons x r ih1 ih2 =>
   intro off q h
   simp only [PV.putI] at h
   cases hb : bltN off x.size with
   | true =>
     simp only [hb, cond_true] at h
     cases hl : PV.putI idx z off x with
     | none => simp [hl] at h
     | some r => exact ih1 _ _ hl
   | false =>
     simp only [hb, cond_false] at h
     cases hl : PV.putI idx z (off - x.size) r with
     | none => simp [hl] at h
     | some r => exact ih2 _ _ hl
 | arrI k n l => intro off q h; simp only [PV.putI] at h; cases z <;> first | rfl | (simp at h; done)
 | arrB n l =>
   intro off q h
   simp only [PV.putI] at h
   cases hb : beqN off 0 with
   | true => simp only [hb, cond_true] at h; cases z <;> first | rfl | (simp at h; done)
   | false => simp [hb] at h
 | arrS n l =>
   intro off q h
   simp only [PV.putI] at h
   cases hb : beqN off 0 with
   | true => simp only [hb, cond_true] at h; cases z <;> first | rfl | (simp at h; done)
   | false => simp [hb] at h
 | _ => intro off q h; simp [PV.putI] at h
theorem turn_obj {M : Mem} {ρ : Names} {g : Sto} {w w' : World} {n id : Nat} (hI : Inv M ρ (only g [id]) w) {o0 o : SObj} (hg : g id = some o0) (hG0 : o0.isG = false) (hG : o.isG = false) {v : Value} {b : Nat}
  (hρ : ρ id = some v) (hb : nblk v = some b) (hm : ∀ i, M b i = none) (hos : w'.os = w.os) (htape : w'.tape = w.tape) (hout : w'.output = w.output) (hsz : w.heap.size <= w'.heap.size)
  (hold : ∀ b', b' < w.heap.size -> b' ≠ b -> w'.heap[b']? = w.heap[b']?) (hok : o.ok M ρ w' v) :
  Adv M ρ (only g [id]) w n n M ρ (updW (only g [id]) [(id, some o)]) w' /\ Inv M ρ (updW (only g [id]) [(id, some o)]) w' := by
 have hat : at? ρ id = some b := by simp [at?, hρ, hb]
 have hocc : occ ρ (only g [id]) b := ⟨id, o0, by simp [only, hg], (has_at hG0 b).2 hat⟩
 have hgg : ∀ i o', updW (only g [id]) [(id, some o)] i = some o' -> i = id /\ o' = o := one_obj (.inr rfl)
 have hA : Adv M ρ (only g [id]) w n n M ρ (updW (only g [id]) [(id, some o)]) w' := by
  refine ⟨Mem.le_refl _, Names.le_refl _, fun i h0 h1 => absurd h0 h1, hos, htape, hout, hsz, fun b' hb' ho => ?_, fun b' ⟨i, o', ho, hb'⟩ => ?_, fun b i h1 h0 => absurd h0 h1,
   fun _ => ⟨rfl, fun i o' ho => by rw [(hgg i o' ho).2]; exact hG⟩, rfl⟩
  ·exact hold b' hb' (fun e => ho (e ▸ hocc))
  ·obtain ⟨rfl, rfl⟩ := hgg i o' ho
   rw [has_at hG, hat] at hb'
   simp only [Option.some.injEq] at hb'
   subst hb'
   exact .inr hocc
 refine ⟨hA, ⟨fun b' i v hv => ?_, fun i o' ho => ?_, fun i i' o1 o2 ho ho' hne => ?_, fun i i' o1 o2 ho ho' _ _ => (hgg i o1 ho).1.trans (hgg i' o2 ho').1.symm, hA.stat hI⟩⟩
 ·have hne : b' ≠ b := by rintro rfl; rw [hm] at hv; cases hv
  rw [cell_of_heap (hold b' (hI.mem_lt hv) hne)]
  exact hI.mem b' i v hv
 ·obtain ⟨rfl, rfl⟩ := hgg i o' ho
  exact ⟨_, hρ, hok⟩
 ·exact absurd ((hgg i o1 ho).1.trans (hgg i' o2 ho').1.symm) hne
theorem turn_var {M : Mem} {ρ : Names} {g : Sto} {w : World} {n id : Nat} (hI : Inv M ρ (only g [id]) w) {pv pv' : PV} (hg : g id = some (.var pv)) {b : Nat} {c c' : Array Value} {t : TypeId}
  (hρ : ρ id = some (.pointer (some ⟨b, 0, none⟩))) (hb : w.heap[b]? = some (.cells c t (0, 0))) (hm : ∀ i, M b i = none) (hr : rel M pv' ρ .cells c'.toList) :
  Adv M ρ (only g [id]) w n n M ρ (updW (only g [id]) [(id, some (.var pv'))]) (w.setRow b c') /\ Inv M ρ (updW (only g [id]) [(id, some (.var pv'))]) (w.setRow b c') :=
 turn_obj hI hg rfl rfl hρ rfl hm rfl rfl rfl (by simp) (fun b' _ hne => setRow_other w b b' c' hne) ⟨b, c', t, rfl, setRow_heap w b c c' t _ hb, hr, hm⟩
theorem run_storeAt {t : TypeId} {i : TI} (hi : TOK P t i) {w : World} {b off : Nat} {c : Array Value} {ty : TypeId} (hb : w.heap[b]? = some (.cells c ty (0, 0))) {v : Value} (hsz : v.cells.size = i.size)
  (hle : off + v.cells.toList.length <= c.size) (h1 : ∀ u ∈ v.cells.toList, u.oneCell' = true) :
  (Instr.storeAt t (.pointer (some ⟨b, off, none⟩)) v).run P w = .ok () (w.setRow b (splice c.toList off v.cells.toList).toArray) := by
 have := run_storeCells_at (P := P) b off ty v.cells.toList 0 c w hb (by simpa using hle) h1
 simp only [Nat.add_zero] at this
 simp only [Instr.storeAt, Instr.sureAddr, Sem.run_bind, Sem.run_pure, Result.andThen_ok, storeVar, run_sizeOf' hi]
 rw [if_neg (by simp [hsz])]
 exact this
theorem store_ok {T : Nat -> Option TI} (hT : TT P T) {e : Operand -> PV} {g : Sto} {n t : Nat} {a x : Operand} {E : Eff} (h : opE T e g n (.store t a x) = some E) : EffOK P G e g n (.store t a x) E := by
 simp only [opE] at h
 cases ht : T t with
 | none => simp [ht] at h
 | some i =>
   have hi := hT t i ht
   rw [ht] at h
   simp only at h
   cases hs : sameShape (e x) i.zero with
   | false => simp [hs] at h
   | true =>
     simp only [hs, cond_true] at h
     have hwl := sameShape_wide hs hi.wide
     have hwl' : (e x).wide = true \/ (e x).leaf = true := by rw [hwl.1, hwl.2]; exact hi.wide
     split at h
     · rename_i id off hp
       split at h
       · rename_i pv hg
         cases hput : PV.put (e x) off pv with
         | none => simp [hput] at h
         | some pv' =>
           simp only [hput, Option.some.injEq] at h
           subst h
           refine ⟨by simp, fun q hq => .inl (by simp at hq; subst hq; simp), fun o M ρ w ev ho hev hI hfree hr hC hG => ?_⟩
           have hx := rel_cells hwl' (hr x (by simp [Op.operands]))
           have ha := hr a (by simp [Op.operands])
           rw [hp] at ha
           obtain ⟨vv, hv, b, c, ty, rfl, h1, h2, h3⟩ := hI.obj id (.var pv) (by simp [only, hg])
           obtain ⟨b', hb1, _, hb2⟩ := ha
           have hb3 := hv
           rw [hv] at hb1
           simp only [Option.some.injEq, Value.pointer.injEq, Addr.mk.injEq, and_true] at hb1
           subst hb1
           obtain ⟨k1, k2, _⟩ := put_ok hx _ _ _ _ h2 hput
           have hsz : (ev x).cells.size = i.size := by
             have := rel_size _ hx
             rw [hi.size, <- sameShape_size hs, <- this]; simp
           have hrun := run_storeAt (P := P) hi (off := off) h1 hsz (by simpa using k1) (rel_one _ hx)
           unfold OpR
           simp only [execOp, ho, show ev a = _ by simpa using hb2, Sem.run_bind, hrun, Result.andThen_ok, Sem.run_pure]
           obtain ⟨r1, r2⟩ := turn_var (n := n) hI hg hb3 h1 h3 (c' := (splice c.toList off (ev x).cells.toList).toArray) k2
           exact ⟨M, ρ, r1, r2, ⟨rfl, _, rfl⟩⟩
       · cases h
     · rename_i id off j hp
       split at h
       · rename_i pv hg
         cases hput : PV.putI j (e x) off pv with
         | none => simp [hput] at h
         | some q =>
           obtain ⟨m, pv'⟩ := q
           simp only [hput, Option.some.injEq] at h
           subst h
           refine ⟨by simp, fun q hq => .inl (by simp at hq; subst hq; simp), fun o M ρ w ev ho hev hI hfree hr hC hG => ?_⟩
           simp only [List.mem_cons, List.not_mem_nil, or_false, forall_eq] at hC
           have hx := rel_cells hwl' (hr x (by simp [Op.operands]))
           have ha := hr a (by simp [Op.operands])
           rw [hp] at ha
           obtain ⟨vv, hv, b, c, ty, rfl, h1, h2, h3⟩ := hI.obj id (.var pv) (by simp [only, hg])
           obtain ⟨b', hb1, _, _, hb2⟩ := ha
           have hb3 := hv
           rw [hv] at hb1
           simp only [Option.some.injEq, Value.pointer.injEq, Addr.mk.injEq, and_true] at hb1
           subst hb1
           have hone : ∃ zv, (ev x).cells.toList = [zv] := by
             have hxl : (e x).leaf = true := putI_leaf _ _ _ hput
             exact rel_at_leaf hxl hx
           obtain ⟨zv, hzv⟩ := hone
           rw [hzv] at hx
           obtain ⟨k1, k2, k3, k4, k5⟩ := putI_ok hx _ _ _ _ _ h2 hput
           have hsz : (ev x).cells.size = i.size := by
             have := rel_size _ hx
             rw [hi.size, <- sameShape_size hs, <- this, <- hzv]; simp
           have hle : off + (j ()).toNat + (ev x).cells.toList.length <= c.size := by
             rw [hzv]; simp only [Array.length_toList] at k1; simp; omega
           have hrun := run_storeAt (P := P) hi (off := off + (j ()).toNat) h1 hsz hle (by rw [hzv]; exact rel_one _ hx)
           rw [hzv, splice_one (by rw [hzv] at hle; simp at hle ⊢; omega)] at hrun
           unfold OpR
           simp only [execOp, ho, show ev a = _ by simpa using hb2, Sem.run_bind, hrun, Result.andThen_ok, Sem.run_pure]
           obtain ⟨r1, r2⟩ := turn_var (n := n) hI hg hb3 h1 h3 (c' := (c.toList.set (off + (j ()).toNat) zv).toArray) (by simpa using k5 hC.1 hC.2)
           exact ⟨M, ρ, r1, r2, ⟨rfl, _, rfl⟩⟩
       · cases h
     · cases h
end Go.Abs
namespace Go.Abs
variable {P : Program} {G : Gs}
theorem strip_rel {M : Mem} : ∀ (pv : PV) {ρ : Names} {m : Mode} {vs : List Value}, pv.pure = true -> rel M pv ρ m vs -> rel M pv.strip noNames m vs := by
 intro pv
 induction pv with
 | slice tok esz len f ih =>
   intro ρ m vs _ ⟨a, n, cap, h1, h2, h3, h4, h5, h6⟩
   exact ⟨a, n, cap, h1, h2, h3, h4, fun id h => (by cases h), h6⟩
 | agg l ih =>
   intro ρ m vs hp h
   rcases h with ⟨h1, h2⟩ | ⟨h1, cs, h2, h3⟩
   · exact .inl ⟨h1, ih hp h2⟩
   · exact .inr ⟨h1, cs, h2, ih hp h3⟩
 | cons x r ih1 ih2 =>
   intro ρ m vs hp h
   simp only [PV.pure, Bool.and_eq_true] at hp
   rcases h with ⟨h1, c, d, h2, h3, h4⟩ | ⟨h1, v, ws, h2, h3, h4⟩
   · exact .inl ⟨h1, c, d, h2, ih1 hp.1 h3, ih2 hp.2 h4⟩
   · exact .inr ⟨h1, v, ws, h2, ih1 hp.1 h3, ih2 hp.2 h4⟩
 | ptr id off => intro ρ m vs hp; simp [PV.pure] at hp
 | ptri id off idx => intro ρ m vs hp; simp [PV.pure] at hp
 | map id => intro ρ m vs hp; simp [PV.pure] at hp
 | func fn first captured ih1 ih2 =>
   intro ρ m vs hp ⟨fs, cs, h1, h2, h3⟩
   simp only [PV.pure, Bool.and_eq_true] at hp
   exact ⟨fs, cs, h1, ih1 hp.1 h2, ih2 hp.2 h3⟩
 | tuple l ih => intro ρ m vs hp ⟨h1, ws, h2, h3⟩; exact ⟨h1, ws, h2, ih hp h3⟩
 | iface t x ih => intro ρ m vs hp ⟨v, h1, h2⟩; exact ⟨v, h1, ih hp h2⟩
 | _ => intro ρ m vs _ h; exact h
def addRow (M : Mem) (b : Nat) (cs : List Value) : Mem := ⟨fun b' i => if b' = b then cs[i]? else M b' i, M.stat⟩
theorem le_addRow {M : Mem} {b : Nat} (h : ∀ i, M b i = none) (cs : List Value) : M.le (addRow M b cs) := by
 refine ⟨fun b' i v hv => ?_, fun _ _ h => h⟩
 change (if b' = b then cs[i]? else M b' i) = some v
 split
 ·rename_i e; subst e; rw [h] at hv; cases hv
 ·exact hv
theorem new_row {M : Mem} {ρ : Names} {g : Sto} {w : World} {n : Nat} (hI : Inv M ρ (only g []) w) (cs cs' : List Value) (hc : ∀ (i : Nat) (v : Value), cs'[i]? = some v -> cs[i]? = some v) (t : TypeId) :
  Adv M ρ (only g []) w n n (addRow M w.heap.size cs') ρ (updW (only g []) []) (w.alloc (.cells cs.toArray t)) /\ Inv (addRow M w.heap.size cs') ρ (updW (only g []) []) (w.alloc (.cells cs.toArray t)) := by
 have hA : Adv M ρ (only g []) w n n (addRow M w.heap.size cs') ρ (updW (only g []) []) (w.alloc (.cells cs.toArray t)) := by
  refine ⟨le_addRow hI.mem_new _, Names.le_refl _, fun id h0 h1 => absurd h0 h1, rfl, rfl, rfl, (by show _ <= (w.heap.push _).size; simp), fun b hb _ => alloc_heap_old w _ hb, fun b ⟨id, o, ho, hb⟩ => ?_, fun b i h1 h0 => ?_, fun _ => ⟨rfl, fun id o ho => by simp [updW, only] at ho⟩, rfl⟩
  ·simp [updW, only] at ho
  ·change (if b = w.heap.size then cs'[i]? else M b i) ≠ none at h1
   split at h1
   ·exact .inl (by omega)
   ·exact absurd h0 h1
 refine ⟨hA, ⟨fun b i v hm => ?_, fun id o ho => ?_, fun id id' o o' ho => ?_, fun id id' o o' ho => ?_, hA.stat hI⟩⟩
 ·change (if b = w.heap.size then cs'[i]? else M b i) = some v at hm
  split at hm
  ·rename_i e; subst e
   rw [cells_of_block (alloc_heap_new w _)]
   simpa using hc i v hm
  ·rw [cell_of_heap (alloc_heap_old w _ (hI.mem_lt hm))]
   exact hI.mem b i v hm
 ·simp [updW, only] at ho
 ·simp [updW, only] at ho
 ·simp [updW, only] at ho
theorem buildSlice_ok {T : Nat -> Option TI} (hT : TT P T) {e : Operand -> PV} {g : Sto} {n t k : Nat} {parts : Array (Nat × Operand)} {E : Eff} (h : opE T e g n (.buildSlice t k parts) = some E) : EffOK P G e g n (.buildSlice t k parts) E := by
 unfold opE at h
 split at h
 ·rename_i heq; cases heq
 ·rename_i heq; cases heq
 ·rename_i heq; cases heq
 ·rename_i heq; cases heq
 ·rename_i t' parts' heq
  injection heq with e1 e2 e3
  subst e1; subst e2; subst e3
  split at h
  ·rename_i el sz by_ z x ht hp
   have hi := hT _ _ ht
   have hu : P.underlying t = some (.slice el) := hi.desc
   cases he : T el with
   | none => simp [he] at h
   | some i =>
     have hie := hT el i he
     rw [he] at h
     simp only at h
     cases hc : (sameShape (e x) i.zero && (e x).pure && bltN 0 i.size && bleN i.size 16777216) with
     | false => simp [hc] at h
     | true =>
       simp only [hc, cond_true, Option.some.injEq, oneRow] at h
       subst h
       simp only [Bool.and_eq_true, decide_eq_true_eq, decide_eq_true_eq] at hc
       obtain ⟨⟨⟨hc1, hc2⟩, hc3⟩, hc4⟩ := hc
       refine ⟨Nat.le_refl _, fun y hy => (by cases hy), fun o M ρ w ev ho hev hI hfree hr hC hG => ?_⟩
       have hwl := sameShape_wide hc1 hie.wide
       have hwl' : (e x).wide = true \/ (e x).leaf = true := by rw [hwl.1, hwl.2]; exact hie.wide
       have hxo := hr x (by simp [Op.operands, hp])
       have hx := rel_cells hwl' hxo
       have hlen := rel_size _ hx
       have hsz : (ev x).cells.size = i.size := by
         rw [hie.size, <- sameShape_size hc1, <- hlen]; simp
       obtain ⟨z1, hz1, hz2⟩ := run_zero hie w
       have hz3 := rel_cells hie.wide hz2
       have hzl : z1.cells.size = i.size := by have := rel_size _ hz3; rw [hie.size, <- this]; simp
       have hpl : (parts.map fun (i, x) => (i, ev x)).toList = [(0, ev x)] := by rw [Array.toList_map, hp]; rfl
       have hfill : ∀ base : Array Value, base.size = i.size -> Instr.fill (fun j => some (j * i.size, i.size)) base [(0, ev x)] = some (ev x).cells := by
         intro base hb
         simp only [Instr.fill, Nat.zero_mul]
         rw [if_neg (by simp [hsz, hb])]
         have hb' : base.toList.length = (ev x).cells.toList.length := by simp [hb, hsz]
         rw [show base = base.toList.toArray from rfl, fold_splice base.toList 0 (ev x).cells (by omega), splice_all _ hb']
       have hrun : (Instr.buildSlice t 1 (parts.map fun (i, x) => (i, ev x))).run P w = .ok (.slice (some ⟨w.heap.size, 0, none⟩) 1 1) (w.alloc (.cells (ev x).cells el)) := by
         simp only [Instr.buildSlice, Sem.run_bind, run_underlying hu, Result.andThen_ok, run_sizeOf' hie, Nat.one_mul]
         rw [if_neg (by omega), if_neg (by omega)]
         simp only [Sem.run_bind, hz1, Result.andThen_ok, Sem.run_pure, hpl]
         rw [hfill _ (by simp)]
         rfl
       unfold OpR
       simp only [execOp, ho, Sem.run_bind, hrun, Result.andThen_ok, Sem.run_pure]
       obtain ⟨r1, r2⟩ := new_row (n := n) hI (ev x).cells.toList (ev x).cells.toList (fun _ _ h => h) el
       refine ⟨_, ρ, r1, r2, ?_⟩
       refine ⟨_, _, _, ⟨by simp, rfl⟩, rfl, Nat.le_refl _, by decide, fun id h => (by cases h), fun _ => ⟨w.heap.size, 0, rfl, fun j hj => ⟨(ev x).cells.toList, by simp [hsz], ?_, fun q hq => ?_⟩⟩⟩
       · exact rel_mono r1.mem _ (Names.le_refl _) (strip_rel _ hc2 hx)
       · obtain rfl : j = 0 := by omega
         simp [addRow]
  ·cases h
 ·rename_i hne _ _ _ _ _
  simp only [pureE] at h
  cases h
theorem opE_ok {T : Nat -> Option TI} (hT : TT P T) {e : Operand -> PV} {g : Sto} {n : Nat} {op : Op} {E : Eff} (h : opE T e g n op = some E) : EffOK P G e g n op E := by
 have hpure : (∀ q, opE T e g n op = q -> q = match pureE T e op with | some (v, C) => some { v, n, C } | none => none) -> EffOK P G e g n op E := by
  intro hq
  have h1 := hq _ h
  cases hp : pureE T e op with
  | none => simp [hp] at h1
  | some q =>
    obtain ⟨v, C⟩ := q
    simp only [hp, Option.some.injEq] at h1
    subst h1
    exact EffOK.of_gives fun M ρ w ev hev hI hr hC => pureE_ok hT hev hp hC hr w
 cases op
 case alloc t => exact alloc_ok hT h
 case box t x => exact box_ok h
 case load t a => exact load_ok hT h
 case store t a x => exact store_ok hT h
 case buildSlice t k parts => exact buildSlice_ok hT h
 all_goals exact hpure fun q hq => by rw [<- hq]; rfl
end Go.Abs
namespace Go.Abs
variable {P : Program}
inductive Reach (ops : Array Oper) : Nat -> Nat -> Prop
 | edge {j i : Nat} {o : Oper} {e : Edge} : ops[j]? = some o -> e ∈ o.after.toList -> Region.binds .any e = true -> e.on = i -> Reach ops j i
 | step {j m i : Nat} {o : Oper} {e : Edge} : ops[j]? = some o -> e ∈ o.after.toList -> Region.binds .any e = true -> e.on = m -> Reach ops m i -> Reach ops j i
theorem before_reach (ops : Array Oper) : ∀ j i, ((Region.before ops).getD j 0).testBit i = true -> Reach ops j i := by
 have inner : ∀ (acc : Array Nat) (k : Nat) (o : Oper), ops[k]? = some o -> (∀ m i, (acc.getD m 0).testBit i = true -> Reach ops m i) -> ∀ (l : List Edge) (s : Nat), (∀ e ∈ l, e ∈ o.after.toList) ->
   (∀ i, s.testBit i = true -> Reach ops k i) -> ∀ i, (l.foldl (fun s e => if Region.binds .any e then s ||| 2 ^ e.on ||| acc.getD e.on 0 else s) s).testBit i = true -> Reach ops k i := by
  intro acc k o ho hacc l
  induction l with
  | nil => intro s _ hs i hi; exact hs i hi
  | cons e l ih =>
    intro s hl hs i hi
    rw [List.foldl_cons] at hi
    refine ih _ (fun e' he' => hl e' (by simp [he'])) (fun i' hi' => ?_) i hi
    split at hi'
    · rename_i hb
      simp only [Nat.testBit_or, Bool.or_eq_true] at hi'
      rcases hi' with (h1 | h1) | h1
      · exact hs i' h1
      · rw [Nat.testBit_two_pow] at h1
        exact .edge ho (hl e (by simp)) hb (by simpa using h1)
      · exact .step ho (hl e (by simp)) hb rfl (hacc _ _ h1)
    · exact hs i' hi'
 have key : ∀ (l : List Oper) (acc : Array Nat), (∀ k o, l[k]? = some o -> ops[acc.size + k]? = some o) -> (∀ m i, (acc.getD m 0).testBit i = true -> Reach ops m i) ->
   ∀ m i, ((l.foldl (fun acc o => acc.push (o.after.foldl (fun s e => if Region.binds .any e then s ||| 2 ^ e.on ||| acc.getD e.on 0 else s) 0)) acc).getD m 0).testBit i = true -> Reach ops m i := by
  intro l
  induction l with
  | nil => intro acc _ h m i hi; exact h m i hi
  | cons o l ih =>
    intro acc hl hacc m i hi
    rw [List.foldl_cons] at hi
    refine ih _ (fun k o' ho' => ?_) (fun m' i' hi' => ?_) m i hi
    · have := hl (k + 1) o' (by simpa using ho')
      rw [Array.size_push, show acc.size + 1 + k = acc.size + (k + 1) by omega]
      exact this
    · have h0 := hl 0 o rfl
      rw [Nat.add_zero] at h0
      by_cases hm : m' = acc.size
      · subst hm
        simp only [Array.getD_eq_getD_getElem?, Array.getElem?_push_size, Option.getD_some] at hi'
        rw [<- Array.foldl_toList] at hi'
        have hin := inner acc acc.size o h0 hacc o.after.toList 0 (fun _ h => h) (fun i hi => by simp at hi) i'
        simp only [Array.getD_eq_getD_getElem?] at hin
        exact hin hi'
      · rw [Array.getD_eq_getD_getElem?, Array.getElem?_push, if_neg hm, <- Array.getD_eq_getD_getElem?] at hi'
        exact hacc m' i' hi'
 intro j i h
 unfold Region.before at h
 rw [<- Array.foldl_toList] at h
 exact key ops.toList #[] (fun k o ho => by simpa using ho) (fun m i hi => by simp at hi) j i h
def Closed (ops : Array Oper) (L : Nat -> Bool) : Prop := ∀ j o e, ops[j]? = some o -> L j = true -> e ∈ o.after.toList -> Region.binds .any e = true -> L e.on = true
theorem Closed.reach {ops : Array Oper} {L : Nat -> Bool} (h : Closed ops L) {j i : Nat} (hr : Reach ops j i) : L j = true -> L i = true := by
 induction hr with
 | edge h1 h2 h3 h4 => intro hj; rw [<- h4]; exact h _ _ _ h1 hj h2 h3
 | step h1 h2 h3 h4 _ ih => intro hj; exact ih (h4 ▸ h _ _ _ h1 hj h2 h3)
def truth (v : PV) (b : Bool) : Prop := ∀ (M : Mem) (ρ : Names) (u : Value), rel M v ρ .val [u] -> u = .bool b
def noBool (v : PV) : Prop := ∀ (M : Mem) (ρ : Names) (u : Value), rel M v ρ .val [u] -> ∀ b, u ≠ .bool b
def GuardP (ops : Array Oper) (A : Env) (g : Option (Nat × Bool)) (r : Bool) : Prop :=
 match g with
 | none => r = true
 | some (j, want) => ∃ o d, ops[j]? = some o /\ o.dst = some d /\ (truth (A.get d) (if r then want else !want) \/ (r = false /\ noBool (A.get d)))
theorem guardE_P {ops : Array Oper} {A : Env} {g : Option (Nat × Bool)} {r : Bool} (h : guardE ops A g = some r) : GuardP ops A g r := by
 unfold guardE at h
 cases g with
 | none => simpa [GuardP] using h.symm
 | some q =>
   obtain ⟨j, want⟩ := q
   simp only at h
   cases hoj : ops[j]? with
   | none => simp [hoj] at h
   | some oj =>
     rw [hoj] at h
     simp only at h
     cases hd : oj.dst with
     | none => simp [hd] at h
     | some d =>
       rw [hd] at h
       simp only at h
       refine ⟨oj, d, hoj, hd, ?_⟩
       split at h
       · refine .inl fun M ρ u hu => ?_
         rename_i hA
         rw [hA] at hu
         simp only [Option.some.injEq] at h
         subst h
         have : u = .bool true := by simpa [rel, one] using hu
         rw [this]; cases want <;> rfl
       · refine .inl fun M ρ u hu => ?_
         rename_i hA
         rw [hA] at hu
         simp only [Option.some.injEq] at h
         subst h
         have : u = .bool false := by simpa [rel, one] using hu
         rw [this]; cases want <;> rfl
       · rename_i hA
         simp only [Option.some.injEq] at h
         refine .inr ⟨h.symm, fun M ρ u hu b => ?_⟩
         rw [hA] at hu
         obtain ⟨_, ws, h1, _⟩ := hu
         intro e
         subst e
         simp at h1
       · cases h
inductive TR (P : Program) (G : Gs) (N : Nat) (ops : Array Oper) (K : Env -> Store -> Nat -> List (List Nat × List Nat) -> Prop) : Nat -> Env -> Store -> Nat -> List (List Nat × List Nat) -> Prop
 | done {i A S n log} : ops.size <= i -> K A S n log -> TR P G N ops K i A S n log
 | skip {i A S n log o} : ops[i]? = some o -> slotOK N o.dst = true -> GuardP ops A o.guard false -> TR P G N ops K (i + 1) (put A o.dst (.tuple .nil)) S n (log ++ [([], [])]) -> TR P G N ops K i A S n log
 | exec {i A S n log o} (E : Eff) : ops[i]? = some o -> slotOK N o.dst = true -> GuardP ops A o.guard true -> EffOK P G (opnd G.val A) S.get n o.op E -> (∀ c ∈ E.C, c ()) ->
  TR P G N ops K (i + 1) (put A o.dst E.v) (setAll S E.W) E.n (log ++ [(E.F, E.W.map (·.1))]) -> TR P G N ops K i A S n log
structure St where
 A : Env
 S : Store
 n : Nat
def logOf : Option Eff -> List Nat × List Nat
 | none => ([], [])
 | some E => (E.F, E.W.map (·.1))
def TStep (P : Program) (G : Gs) (N : Nat) (ops : Array Oper) (i : Nat) (s : St) (x : Option Eff) (s' : St) : Prop :=
 ∃ o, ops[i]? = some o /\ slotOK N o.dst = true /\ match x with
   | none => GuardP ops s.A o.guard false /\ s' = ⟨put s.A o.dst (.tuple .nil), s.S, s.n⟩
   | some E => GuardP ops s.A o.guard true /\ EffOK P G (opnd G.val s.A) s.S.get s.n o.op E /\ (∀ c ∈ E.C, c ()) /\ s' = ⟨put s.A o.dst E.v, setAll s.S E.W, E.n⟩
theorem TR.data {G : Gs} {N : Nat} {ops : Array Oper} {K : Env -> Store -> Nat -> List (List Nat × List Nat) -> Prop} {i : Nat} {A : Env} {S : Store} {n : Nat} {log : List (List Nat × List Nat)}
  (h : TR P G N ops K i A S n log) : i <= ops.size -> ∃ (st : Nat -> St) (ef : Nat -> Option Eff), st i = ⟨A, S, n⟩ /\ (∀ j, i <= j -> j < ops.size -> TStep P G N ops j (st j) (ef j) (st (j + 1))) /\
   K (st ops.size).A (st ops.size).S (st ops.size).n (log ++ (List.range' i (ops.size - i)).map fun j => logOf (ef j)) := by
 induction h with
 | @done i A S n log hi hK =>
   intro hle
   obtain rfl : i = ops.size := by omega
   exact ⟨fun _ => ⟨A, S, n⟩, fun _ => none, rfl, fun j h1 h2 => by omega, by simpa using hK⟩
 | @skip i A S n log o ho hs hg _ ih =>
   intro hle
   have hlt := lt_of_get ho
   obtain ⟨st, ef, h1, h2, h3⟩ := ih (by omega)
   refine ⟨fun j => if j = i then ⟨A, S, n⟩ else st j, fun j => if j = i then none else ef j, by simp, fun j hj1 hj2 => ?_, ?_⟩
   · by_cases hj : j = i
     · subst hj
       simp only [if_true, if_neg (show ¬ j + 1 = j by omega), h1]
       exact ⟨o, ho, hs, hg, rfl⟩
     · simp only [if_neg hj, if_neg (show ¬ j + 1 = i by omega)]
       exact h2 j (by omega) hj2
   · simp only [if_neg (show ¬ ops.size = i by omega)]
     rw [show ops.size - i = ops.size - (i + 1) + 1 by omega, List.range'_succ, List.map_cons]
     simp only [if_true]
     have e : (List.range' (i + 1) (ops.size - (i + 1))).map (fun j => logOf (if j = i then none else ef j)) = (List.range' (i + 1) (ops.size - (i + 1))).map fun j => logOf (ef j) := by
       apply List.map_congr_left
       intro j hj
       have := List.mem_range'_1.1 hj
       rw [if_neg (by omega)]
     rw [e]
     simpa [logOf] using h3
 | @exec i A S n log o E ho hs hg hE hC _ ih =>
   intro hle
   have hlt := lt_of_get ho
   obtain ⟨st, ef, h1, h2, h3⟩ := ih (by omega)
   refine ⟨fun j => if j = i then ⟨A, S, n⟩ else st j, fun j => if j = i then some E else ef j, by simp, fun j hj1 hj2 => ?_, ?_⟩
   · by_cases hj : j = i
     · subst hj
       simp only [if_true, if_neg (show ¬ j + 1 = j by omega), h1]
       exact ⟨o, ho, hs, hg, hE, hC, rfl⟩
     · simp only [if_neg hj, if_neg (show ¬ j + 1 = i by omega)]
       exact h2 j (by omega) hj2
   · simp only [if_neg (show ¬ ops.size = i by omega)]
     rw [show ops.size - i = ops.size - (i + 1) + 1 by omega, List.range'_succ, List.map_cons]
     simp only [if_true]
     have e : (List.range' (i + 1) (ops.size - (i + 1))).map (fun j => logOf (if j = i then some E else ef j)) = (List.range' (i + 1) (ops.size - (i + 1))).map fun j => logOf (ef j) := by
       apply List.map_congr_left
       intro j hj
       have := List.mem_range'_1.1 hj
       rw [if_neg (by omega)]
     rw [e]
     simpa [logOf] using h3
theorem nbeq {i j : Nat} (h : ¬ j = i) : beqN i j = false := by
 cases h' : beqN i j with
 | false => rfl
 | true => exact absurd (by simpa using h' : i = j).symm h
theorem get_drop1 : ∀ (S : Store) (id j : Nat), (Store.set.drop1 S id).get j = if j = id then none else S.get j
 | [], id, j => by simp [Store.set.drop1, Store.get]
 | (i, x) :: r, id, j => by
   have ih := get_drop1 r id j
   unfold Store.set.drop1
   cases hb : beqN i id with
   | true =>
     obtain rfl : i = id := by simpa using hb
     simp only [cond_true, ih]
     unfold Store.get
     by_cases hj : j = i
     · simp [hj]
     · have : beqN i j = false := nbeq hj
       simp [hj, this]
       rw [Store.get.eq_def]
   | false =>
     simp only [cond_false]
     rw [Store.get, ih]
     rw [Store.get.eq_2]
     have hne : i ≠ id := by intro e; rw [e] at hb; simp at hb
     cases hj : beqN i j with
     | true =>
       obtain rfl : i = j := by simpa using hj
       simp [hne]
     | false => simp
theorem get_set : ∀ (S : Store) (id : Nat) (o : Option SObj) (j : Nat), (S.set id o).get j = if j = id then o else S.get j
 | [], id, o, j => by
   cases o with
   | none => simp [Store.set, Store.get]
   | some o =>
     simp only [Store.set, Store.get]
     by_cases hj : j = id
     · subst hj; simp
     · have : beqN id j = false := nbeq hj
       simp [hj, this]
 | (i, x) :: r, id, o, j => by
   have ih := get_set r id o j
   unfold Store.set
   cases hb : beqN i id with
   | true =>
     obtain rfl : i = id := by simpa using hb
     simp only [cond_true]
     cases o with
     | some o =>
       rw [Store.get.eq_2, Store.get.eq_2]
       by_cases hj : j = i
       · subst hj; simp
       · have : beqN i j = false := nbeq hj
         simp [hj, this]
     | none =>
       simp only
       rw [get_drop1, Store.get.eq_2]
       by_cases hj : j = i
       · simp [hj]
       · have : beqN i j = false := nbeq hj
         simp [hj, this]
   | false =>
     simp only [cond_false]
     rw [Store.get.eq_2, ih, Store.get.eq_2]
     have hne : i ≠ id := by intro e; rw [e] at hb; simp at hb
     cases hj : beqN i j with
     | true =>
       obtain rfl : i = j := by simpa using hj
       simp [hne]
     | false => simp
theorem get_setAll : ∀ (W : List (Nat × Option SObj)) (S : Store), (setAll S W).get = updW S.get W
 | [], S => rfl
 | (id, o) :: r, S => by
   rw [setAll, get_setAll r, updW]
   congr 1
   funext j
   exact get_set S id o j
end Go.Abs
