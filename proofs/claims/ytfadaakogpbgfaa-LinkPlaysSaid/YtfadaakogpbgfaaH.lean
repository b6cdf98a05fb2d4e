/-
  Link: slices.DeleteFunc laid at this program.
-/
import Derived.Test.YtfadaakogpbgfaaG
import Derived.Shelf.SlicesE.DeleteFunc
import Derived.Ground.SlgfProg
namespace Go.Proofs.Ytfadaakogpbgfaa
open Go.Shelf Go.RowKit Go.Lib Go.Sort
shelf_lay_g SlLaysH.n10 Slgf 10 at Try 21 as Try.l21
#check @Try.l21
end Go.Proofs.Ytfadaakogpbgfaa
