/- An item's bytes cut are short; with others behind them Next tells the same, and Get that they aren't of the form. (part 3 of 16) -/
import Derived.Laws.StructEq
import Derived.Test.YteoibgpkimlahaaB2
