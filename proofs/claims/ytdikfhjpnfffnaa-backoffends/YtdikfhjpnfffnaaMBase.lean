/- THE SEAT, with maps and calls that turn objects. -/
import Derived.Test.YtdikfhjpnfffnaaBase
import Derived.Test.YtdikfhjpnfffnaaGc
set_option maxRecDepth 2000
set_option linter.unusedVariables false
set_option linter.unusedSimpArgs false
set_option linter.unusedVariables false
namespace Go.Proofs.Ytdikfhjpnfffnaa
open Go Go.Abs Go.Proofs
def mkM (F : Table) (H : STable) : OpX := orX (callS H) (orX (mapX tyT) (mkO F))
theorem mkM_ok {F : Table} {H : STable} (h : TableOK Try.prog G0 F) (hs : STableOK Try.prog G0 H) : OpXOK Try.prog G0 (mkM F H) := orX_ok (callS_ok hs) (orX_ok (mapX_ok tyOK) (mkO_ok h))
end Go.Proofs.Ytdikfhjpnfffnaa
