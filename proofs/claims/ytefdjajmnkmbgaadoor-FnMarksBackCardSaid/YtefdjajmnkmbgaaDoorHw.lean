/- A word on the block of a slice: it does not hang on the length. -/
import Derived.Test.YtefdjajmnkmbgaaDoorWWords
namespace Go.Proofs.YtefdjajmnkmbgaaDoor
theorem own_len_ {k n m c : Nat} {A : Option Addr} (h : some k ≠ (Value.slice A n c).ownBlock) : some k ≠ (Value.slice A m c).ownBlock := by cases A <;> exact h
end Go.Proofs.YtefdjajmnkmbgaaDoor
