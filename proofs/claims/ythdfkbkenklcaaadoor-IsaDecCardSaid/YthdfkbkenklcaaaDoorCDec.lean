/- The instruction of any word, or that there is none, is the document's, and it has just that word: for every word; the package-level tables start as the program's text lays them (the card's tie). -/
import Derived.Test.YthdfkbkenklcaaaDoorCDB12
namespace Go.Proofs.YthdfkbkenklcaaaDoor
theorem isaDecCard_holds : Rows.IsaDecCardSaid := isaDec_holds
#print axioms isaDecCard_holds
end Go.Proofs.YthdfkbkenklcaaaDoor
