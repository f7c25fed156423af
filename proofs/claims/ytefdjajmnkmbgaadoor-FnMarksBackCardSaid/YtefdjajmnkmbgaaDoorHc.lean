/- A word for the printed texts: a row that is read, its length told by an equation. -/
import Derived.Test.YtefdjajmnkmbgaaDoorWMore
namespace Go.Proofs.YtefdjajmnkmbgaaDoor
open Go.RowKit Go.Proofs.YtefdjajmnkmbgaaDoorW.PrintWords
theorem C_len_ {α : Type} {d : Kd α} {w : World} {A : Option Addr} {m n : Nat} {xs : List α} (h : m = n) (hC : Kd.C d w A m xs) : Kd.C d w A n xs := h ▸ hC
end Go.Proofs.YtefdjajmnkmbgaaDoor
