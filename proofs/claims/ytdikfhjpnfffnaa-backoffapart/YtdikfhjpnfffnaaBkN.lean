/- BACKOFF (3): the names of a table, by the shelf's contracts. -/
import Derived.Test.YtdikfhjpnfffnaaBkB
import Derived.Test.YtdikfhjpnfffnaaShelf
import Derived.Sort.KeysCollected
set_option maxRecDepth 2000
set_option linter.unusedVariables false
set_option linter.unusedSimpArgs false
set_option maxRecDepth 2000
set_option linter.unusedVariables false
set_option linter.unusedSimpArgs false
set_option linter.unusedVariables false
set_option linter.unusedSimpArgs false
namespace Go.Proofs.Ytdikfhjpnfffnaa
open Go Go.Abs Go.Proofs Go.RowKit Go.Maps Go.Sort Go.Shelf Go.WideElems Go.WideShapes
theorem sorts24 (m : Nat) : AnyZ.SortsIn Try.prog Try.sorted24_ren Fence.wide m :=
  ⟨fun blk off cap ss W hH hblk hsz => callsIn_wide.2 (AnyM.slices_Sort_string Try.sort29 blk off cap ss W hH hblk hsz),
   fun p cap W => callsIn_wide.2 (AnyM.slices_Sort_string_none Try.sort29 p cap W)⟩
/-- The names, sorted. -/
def keysL (l : RowL) : List (List UInt8) := l.map fun x => ByteArray.toList' x.1
  where ByteArray.toList' (s : ByteArray) : List UInt8 := s.data.toList
def sortedN (l : RowL) : List ByteArray := ((keysL l).mergeSort leB).map fun s => ⟨s.toArray⟩
def anyR : Value → Option (DataW Unit × List MemPlace) := fun _ => some (.nil, [])
theorem owns {w : World} {b : Nat} {es : Array MapEntry} {clock : Nat} {l : RowL} (hb : w.heap[b]? = some (.map es clock)) (h : MapOK .str shRow es.toList clock l) (hs : ∀ x ∈ l, (x.1 : ByteArray).size ≤ Go.maxLen) (hl : l.length ≤ Go.maxLen) :
    ∃ D : DataW Unit, w.ownsMap Try.prog 9 anyR b l.length D ∧ (strKeys D).Perm (keysL l) ∧ Maps.size D = l.length := by
  have hk := h.keys
  have hlen : es.size = l.length := by rw [← Array.length_toList]; exact h.len
  have hkey : ∀ x ∈ es.toList, ∃ y ∈ l, x.key = Value.string y.1 := fun x hx => by
    have h1 : x.key ∈ es.toList.map (·.key) := List.mem_map_of_mem hx
    rw [hk] at h1
    obtain ⟨y, hy, e⟩ := List.mem_map.1 h1
    exact ⟨y, hy, e.symm⟩
  have hrd : ∀ x ∈ es.toList, ∀ s, x.key = Value.string s → s.size ≤ Go.maxLen → WideElems.rd Try.prog 9 anyR x = some (.string s.data.toList, .nil) := fun x hx s e hs => by
    have : keyOf Try.prog 9 x.key = some (.string s.data.toList) := by
      unfold keyOf
      rw [show Try.prog.underlying 9 = some .string by kernel_rfl]
      show mapKey _ _ _ = _
      unfold mapKey
      rw [show Try.prog.underlying 9 = some .string by kernel_rfl, e]
      exact if_pos hs
    simp [WideElems.rd, this, anyR]
  have hrg : es.toList.map (rg Try.prog 9 anyR) = l.map fun x => (Lit.string (ByteArray.data x.1).toList, DataW.nil) := by
    apply List.ext_getElem
    · simp [hlen]
    · intro i h1 h2
      simp only [List.getElem_map]
      have h1' : i < es.toList.length := by simpa using h1
      have h2' : i < l.length := by simpa using h2
      have e : (es.toList.map (·.key))[i]'(by simpa using h1') = (l.map fun x => (Sh.str).enc x.1)[i]'(by simpa using h2') := by simp only [hk]
      simp only [List.getElem_map] at e
      have e : (es.toList[i]).key = Value.string l[i].1 := e
      exact rg_of (hrd _ (List.getElem_mem h1') _ e (hs _ (List.getElem_mem h2')))
  refine ⟨_, ⟨es, clock, hb, ⟨by omega, ⟨h.old, h.born, ?_⟩, fun x hx => ?_⟩, by omega, rfl⟩, ?_, ?_⟩
  · rw [hk]
    have hd : (l.map (·.1)).Pairwise (· ≠ ·) := h.diff
    have hd := List.pairwise_map.1 hd
    refine List.pairwise_map.2 (hd.imp fun {a b} hab he => hab ?_)
    have he : Value.string a.1 = Value.string b.1 := he
    exact Value.string.inj he
  · obtain ⟨y, hy, e⟩ := hkey x hx
    exact ⟨_, hrd x hx _ e (hs y hy)⟩
  · show (List.map (fun p : Lit × DataW Unit => strOf p.1) _).Perm _
    refine ((sorted_perm _).map _).trans ?_
    rw [hrg, List.map_map]
    exact List.Perm.refl _
  · show (List.foldr DataW.insert [] _).length = _
    rw [(sorted_perm _).length_eq, List.length_map, Array.length_toList]; exact hlen
def keysF (p : PV) : PV := .func (.func 30) .nil (.cons p .nil)
def keysS (l : RowL) : Store := [(0, .var (.map 1)), (1, .map .str shRow fun _ => l)]
theorem sorted_ok (l : RowL) (hs : ∀ x ∈ l, (x.1 : ByteArray).size ≤ Go.maxLen) (hl : l.length ≤ 1000000) : SFun Try.prog G0 24 (.cons (keysF (.ptr 0 0)) .nil) (keysS l) 2 (QR 2 (Sh.mkL 1 .str fun _ => sortedN l) (keysS l)) := by
  refine SFun.of_news (⟨Try.func24, rfl, rfl, rfl, ⟨rfl, rfl⟩, ok _⟩ : FN 24 Try.f24).callable ⟨impP_refl _, rfl, trivial⟩ fun M ρ w vs hG hI hn hr => ?_
  rcases hr with ⟨h', _⟩ | ⟨_, v, ws, rfl, h1, _, rfl⟩
  · cases h'
  obtain ⟨fs, cs, ⟨_, e1⟩, ⟨_, rfl⟩, h3⟩ := h1
  rcases h3 with ⟨h', _⟩ | ⟨_, v2, ws2, rfl, ⟨Bm, hρ0, _, e2⟩, _, rfl⟩
  · cases h'
  obtain rfl : v2 = .pointer (some ⟨Bm, 0, none⟩) := by simpa using e2
  obtain rfl : v = .func (.func 30) #[] #[.pointer (some ⟨Bm, 0, none⟩)] := by simpa using e1
  obtain ⟨u0, hu0, b0, c, t, rfl, hc, hrc, _⟩ := hI.obj 0 _ (show Store.get (keysS l) 0 = some (.var (.map 1)) by rfl)
  rw [hρ0] at hu0
  obtain rfl : Bm = b0 := by simpa using hu0
  obtain ⟨b, hρ1, _, e3⟩ := hrc
  obtain ⟨u1, hu1, b1, ents, clock, rfl, hm, hM⟩ := hI.obj 1 _ (show Store.get (keysS l) 1 = some (.map .str shRow fun _ => l) by rfl)
  rw [hρ1] at hu1
  obtain rfl : b = b1 := by simpa using hu1
  have hM : MapOK .str shRow ents.toList clock l := hM
  have hmx : (1000000 : Nat) ≤ Go.maxLen := by decide
  obtain ⟨D, hown, hperm, hsize⟩ := owns hm hM hs (by omega)
  have hcell : w.cell? ⟨Bm, 0, none⟩ = some (.map (some b)) := by
    have : c = #[.map (some b)] := by cases c; simpa using e3
    simp [World.cell?, hc, this]
  have hseq : SeqGives Fence.wide 2 Try.prog 30 #[.pointer (some ⟨Bm, 0, none⟩)] encStr (fun ss => ss.Perm (strKeys D)) (Maps.size D) w :=
    AnyZ.keys_gives (ρ := Try.keys25_ren) { Try.keys25 with } Fence.wide _ trivial rfl (by omega) Bm b l.length D w (lt_of_get hc) hcell hown
  have hcall := AnyZ.sorted_in Try.sorted24 Fence.wide 5 trivial trivial trivial trivial rfl (by omega) (sorts24 _) (enters_of Try.func29 (by kernel_rfl) rfl) 30 #[.pointer (some ⟨Bm, 0, none⟩)] trivial (enters_of Try.func30 (by kernel_rfl) rfl) _ (Maps.size D) (by rw [hsize]; omega) (by rw [hsize]; omega) w hseq
  refine (callsIn_wide.1 hcall).mono ?_
  rintro e w' ⟨v, ss, rfl, hS, ⟨hxl, hrow⟩, hnil, hbe⟩
  have hsort : ss.mergeSort leB = (keysL l).mergeSort leB := mergeSort_of_perm (hS.trans hperm)
  have hlen : ss.length = (sortedN l).length := by unfold sortedN; rw [List.length_map, List.length_mergeSort, (hS.trans hperm).length_eq]
  refine ⟨v, rfl, hbe, fun M' hM' _ => ?_⟩
  rcases hrow with ⟨rfl, h0⟩ | ⟨g, cap, cur, rfl, hg0, hg, h1, h2, h3, h4⟩
  · refine ⟨none, 0, 0, ⟨by simp, rfl⟩, ?_, Nat.le_refl _, Nat.zero_le _, fun id h => (by cases h), fun h => absurd h (by omega)⟩
    show ((0 : Nat) : Int) = ((sortedN l).length : Int)
    rw [← hlen, h0]
  · refine ⟨_, _, _, ⟨by simp, rfl⟩, ?_, h1, h2, fun id h => (by cases h), fun _ => ⟨_, 0, rfl, fun j hj => ?_⟩⟩
    · show ((ss.length : Nat) : Int) = ((sortedN l).length : Int)
      rw [hlen]
    · refine ⟨[.string ((sortedN l).getD j ByteArray.empty)], rfl, ⟨by simp, rfl⟩, fun q hq => ?_⟩
      obtain rfl : q = 0 := by omega
      refine hM' _ _ _ hg0 ?_
      rw [show 0 + j * 1 + 0 = j by omega]
      have hx : (sortedN l)[j]? = some ((sortedN l).getD j ByteArray.empty) := by
        rw [List.getD_eq_getElem?_getD, List.getElem?_eq_getElem (by omega)]; rfl
      have hxs : ((ss.mergeSort leB).map encStr)[j]? = some (.string ((sortedN l).getD j ByteArray.empty)) := by
        rw [hsort, List.getElem?_map]
        unfold sortedN at hx ⊢
        rw [List.getElem?_map] at hx
        cases hq : ((keysL l).mergeSort leB)[j]? with
        | none => rw [hq] at hx; cases hx
        | some s =>
          rw [hq] at hx
          have hx := Option.some.inj hx
          rw [← hx]; rfl
      have h4 : cur.toList.take (ss.length * 1) = (ss.mergeSort leB).map encStr := h4
      rw [← h4, List.getElem?_take_of_lt (by omega), Array.getElem?_toList] at hxs
      unfold World.cell?
      rw [show (⟨g, j, none⟩ : Addr).block = g from rfl, hg]
      simpa using hxs
end Go.Proofs.Ytdikfhjpnfffnaa
