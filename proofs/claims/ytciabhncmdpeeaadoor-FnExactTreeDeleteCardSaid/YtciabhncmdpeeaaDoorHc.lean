/- A word for the printed texts: a row that is read, its length told by an equation. -/
import Derived.Test.YtciabhncmdpeeaaDoorWMore
namespace Go.Proofs.YtciabhncmdpeeaaDoor
open Go.RowKit Go.Proofs.YtciabhncmdpeeaaDoorW.PrintWords
end Go.Proofs.YtciabhncmdpeeaaDoor
