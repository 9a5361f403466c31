/- The reference's Scan. -/
import Derived.Test.YtbhmgooohhgpaaaDoorLexG
namespace Go.Proofs.YtbhmgooohhgpaaaDoor
open Go.RowKit Go.Shelf

end Go.Proofs.YtbhmgooohhgpaaaDoor
