/- PLAIN: numbers read: digits, with a '-' ahead or not; what the library's ParseInt says of them; a number's own text is read as it. -/
import Derived.Test.YtjnagmdbkkccpaaGreatDoorBaseG
import Derived.Lib.ParseIntB
import Derived.Lib.ItoaNum
import Derived.Lib.SlTrimSet
import Derived.Lib.Strings
namespace Go.Proofs.YtjnagmdbkkccpaaGreatDoor
open Go Go.RowKit
set_option linter.unusedVariables false
/-! ### a number's text is read as it -/
end Go.Proofs.YtjnagmdbkkccpaaGreatDoor
