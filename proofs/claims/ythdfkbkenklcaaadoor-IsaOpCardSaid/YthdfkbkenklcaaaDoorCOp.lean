/- The operation of any name is the document's, and each from 1 to 31 has one name: for every name and number; the package-level tables start as the program's text lays them (the card's tie). -/
import Derived.Test.YthdfkbkenklcaaaDoorCTO11
namespace Go.Proofs.YthdfkbkenklcaaaDoor
theorem isaOpCard_holds : Rows.IsaOpCardSaid := isaOp_holds
#print axioms isaOpCard_holds
end Go.Proofs.YthdfkbkenklcaaaDoor
