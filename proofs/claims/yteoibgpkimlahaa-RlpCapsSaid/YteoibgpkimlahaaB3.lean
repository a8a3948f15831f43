/- The caps of an item's bytes: one deeper than the cap is too deep, one item more too many. (part 3 of 16) -/
import Derived.Laws.StructEq
import Derived.Test.YteoibgpkimlahaaB2
