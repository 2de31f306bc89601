/- No library function of whole numbers' sorting is in this seat: imports alone. -/
import Derived.Test.YthnkikdbllkmkaaProg
import Derived.Shelf.SlGeneric
import Derived.Sort.OwnSortedInts
namespace Go.Proofs.Ythnkikdbllkmkaa
end Go.Proofs.Ythnkikdbllkmkaa
