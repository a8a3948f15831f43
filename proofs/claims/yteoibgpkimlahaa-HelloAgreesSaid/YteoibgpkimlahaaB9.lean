/- What two agree on is the same whichever is asked first, and it is the document's. (part 9 of 19) -/
import Derived.Laws.BitsAllLaws
import Derived.Test.YteoibgpkimlahaaB8
section
namespace Go.Proofs.Yteoibgpkimlahaa.P
open Go.RowKit Go.Proofs.YteoibgpkimlahaaW.PrintWords Go.Proofs.YteoibgpkimlahaaW.PrintLast Go.Proofs.YteoibgpkimlahaaW.PrintMore
theorem toList_inj {a b : ByteArray} (h : a.toList = b.toList) : a = b := by
 rw [ByteArray.toList_eq, ByteArray.toList_eq] at h
 exact Go.WideShapes.bytes_inj h
def sz (x : Int) : Nat := if _h : x ≤ 0 then 0 else sz (x / 256) + 1
termination_by x.toNat
decreasing_by omega
end Go.Proofs.Yteoibgpkimlahaa.P
end
