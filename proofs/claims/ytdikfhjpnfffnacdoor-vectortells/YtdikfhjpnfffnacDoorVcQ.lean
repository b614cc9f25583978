/- VECTORS: the law that tells. -/
import Derived.Test.YtdikfhjpnfffnacDoorVcN
import Derived.Test.YtdikfhjpnfffnacDoorVcO
set_option maxRecDepth 2000
set_option linter.unusedVariables false
set_option linter.unusedSimpArgs false
set_option linter.unusedVariables false
namespace Go.Proofs.YtdikfhjpnfffnacDoor
open Go Go.Abs Go.Proofs
theorem tells_law (a b c d e f r : Int) : PF 4 (.cons (vP a b c) (.cons (vP d e f) (.cons (i64 r) .nil))) .tt := by
  by_cases h0 : r = 0
  · by_cases ha : a < d <;> by_cases hb : b < e <;> by_cases hc : c < f
    · exact tells0 a b c d e f r h0 ha hb hc
    · exact tells1 a b c d e f r h0 ha hb hc
    · exact tells2 a b c d e f r h0 ha hb hc
    · exact tells3 a b c d e f r h0 ha hb hc
    · exact tells4 a b c d e f r h0 ha hb hc
    · exact tells5 a b c d e f r h0 ha hb hc
    · exact tells6 a b c d e f r h0 ha hb hc
    · exact tells7 a b c d e f r h0 ha hb hc
  by_cases h1 : r = 1
  · by_cases ha : a < d <;> by_cases hb : b < e <;> by_cases hc : c < f
    · exact tells8 a b c d e f r h1 ha hb hc
    · exact tells9 a b c d e f r h1 ha hb hc
    · exact tells10 a b c d e f r h1 ha hb hc
    · exact tells11 a b c d e f r h1 ha hb hc
    · exact tells12 a b c d e f r h1 ha hb hc
    · exact tells13 a b c d e f r h1 ha hb hc
    · exact tells14 a b c d e f r h1 ha hb hc
    · exact tells15 a b c d e f r h1 ha hb hc
  by_cases h2 : r = 2
  · by_cases ha : a < d <;> by_cases hb : b < e <;> by_cases hc : c < f
    · exact tells16 a b c d e f r h2 ha hb hc
    · exact tells17 a b c d e f r h2 ha hb hc
    · exact tells18 a b c d e f r h2 ha hb hc
    · exact tells19 a b c d e f r h2 ha hb hc
    · exact tells20 a b c d e f r h2 ha hb hc
    · exact tells21 a b c d e f r h2 ha hb hc
    · exact tells22 a b c d e f r h2 ha hb hc
    · exact tells23 a b c d e f r h2 ha hb hc
  · by_cases ha : a < d <;> by_cases hb : b < e <;> by_cases hc : c < f
    · exact tells24 a b c d e f r ⟨h0, h1, h2⟩ ha hb hc
    · exact tells25 a b c d e f r ⟨h0, h1, h2⟩ ha hb hc
    · exact tells26 a b c d e f r ⟨h0, h1, h2⟩ ha hb hc
    · exact tells27 a b c d e f r ⟨h0, h1, h2⟩ ha hb hc
    · exact tells28 a b c d e f r ⟨h0, h1, h2⟩ ha hb hc
    · exact tells29 a b c d e f r ⟨h0, h1, h2⟩ ha hb hc
    · exact tells30 a b c d e f r ⟨h0, h1, h2⟩ ha hb hc
    · exact tells31 a b c d e f r ⟨h0, h1, h2⟩ ha hb hc
end Go.Proofs.YtdikfhjpnfffnacDoor
