/- The bytes of any item are the document's, as many as are told, or the error; they are got again, by caps that are just enough. (part 3 of 16) -/
import Derived.Laws.StructEq
import Derived.Test.YteoibgpkimlahaaB2
