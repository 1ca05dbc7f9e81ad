/- Of a word that is an instruction's, with one bit turned, what is read is another instruction, or none: for every word and bit; the package-level tables start as the program's text lays them (the card's tie). -/
import Derived.Test.YthdfkbkenklcaaaDoorCDB12
namespace Go.Proofs.YthdfkbkenklcaaaDoor
theorem isaBitsCard_holds : Rows.IsaBitsCardSaid := isaBits_holds
#print axioms isaBitsCard_holds
end Go.Proofs.YthdfkbkenklcaaaDoor
