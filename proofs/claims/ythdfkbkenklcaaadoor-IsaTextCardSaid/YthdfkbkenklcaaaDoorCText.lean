/- Any instruction's line is the document's, and begins with the name of its operation: for every instruction; the package-level tables start as the program's text lays them (the card's tie). -/
import Derived.Test.YthdfkbkenklcaaaDoorCTO11
namespace Go.Proofs.YthdfkbkenklcaaaDoor
theorem isaTextCard_holds : Rows.IsaTextCardSaid := isaText_holds
#print axioms isaTextCard_holds
end Go.Proofs.YthdfkbkenklcaaaDoor
