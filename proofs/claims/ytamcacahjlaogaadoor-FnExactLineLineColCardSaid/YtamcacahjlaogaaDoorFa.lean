/- What a call may change, by its blocks; gap buffers with the blocks they own. No condition. -/
import Derived.Test.YtamcacahjlaogaaDoorGp9
namespace Go.Proofs.YtamcacahjlaogaaDoor.F
open Go.RowKit Go.Proofs.YtamcacahjlaogaaDoorW.PrintWords Go.Proofs.YtamcacahjlaogaaDoorW.PrintLast Go.Proofs.YtamcacahjlaogaaDoorW.PrintMore Er
structure UpdS (S : List Nat) (w w' : World) : Prop where
 os : w'.os = w.os
 tape : w'.tape = w.tape
 output : w'.output = w.output
 size : w.heap.size ≤ w'.heap.size
 block : ∀ k, k < w.heap.size → k ∉ S → w'.heap[k]? = w.heap[k]?
def Fresh (S S' : List Nat) (w : World) : Prop := ∀ k ∈ S', k ∈ S ∨ w.heap.size ≤ k
theorem Fresh.refl (S : List Nat) (w : World) : Fresh S S w := fun _ h => .inl h
theorem UpdS.refl (S : List Nat) (w : World) : UpdS S w w := ⟨rfl, rfl, rfl, Nat.le_refl _, fun _ _ _ => rfl⟩
theorem UpdS.trans {S S1 : List Nat} {w w1 w2 : World} (h : UpdS S w w1) (k : UpdS S1 w1 w2) (hs : Fresh S S1 w) : UpdS S w w2 :=
 ⟨k.os.trans h.os, k.tape.trans h.tape, k.output.trans h.output, Nat.le_trans h.size k.size, fun i hi hn => (k.block i (Nat.lt_of_lt_of_le hi h.size) (fun hm => by
  rcases hs i hm with h1 | h1
  ·exact hn h1
  ·omega)).trans (h.block i hi hn)⟩
theorem UpdS.tr {S : List Nat} {w w1 w2 : World} (h : UpdS S w w1) (k : UpdS S w1 w2) : UpdS S w w2 := h.trans k (Fresh.refl _ _)
theorem UpdS.of_below {S : List Nat} {w w1 : World} (h : Below w.heap.size w w1) : UpdS S w w1 := ⟨h.os, h.tape, h.output, h.size, fun k hk _ => h.block k hk⟩
theorem UpdS.bel {S : List Nat} {w w1 : World} {base : Nat} (h : UpdS S w w1) (hb : ∀ k ∈ S, base ≤ k) (hs : base ≤ w.heap.size) : Below base w w1 := ⟨h.os, h.tape, h.output, h.size, fun k hk => h.block k (by omega) (fun hm => by have := hb k hm; omega)⟩
theorem UpdS.alloc {S : List Nat} {a w : World} (h : UpdS S a w) (o : Obj) : UpdS S a (w.alloc o) := h.tr (.of_below ((Below.refl _ w).alloc (Nat.le_refl _) o))
theorem UpdS.drew {S : List Nat} {a w : World} (h : UpdS S a w) : UpdS S a w.drew := h.tr (.of_below (Below.refl _ w).drew)
theorem UpdS.drewN {S : List Nat} {a w : World} (h : UpdS S a w) (n : Nat) : UpdS S a (w.drewN n) := h.tr (.of_below (pw_below_drewN (Below.refl _ _) n))
theorem UpdS.setCell {S : List Nat} {a w : World} (h : UpdS S a w) {p : Addr} (hp : p.block ∈ S ∨ a.heap.size ≤ p.block) (u : Value) : UpdS S a (w.setCell p u) :=
 ⟨h.os, h.tape, h.output, by rw [World.size_setCell]; exact h.size, fun k hk hn => (Below.heap_setCell w p u k (fun e => by subst e; rcases hp with q | q; exact hn q; omega)).trans (h.block k hk hn)⟩
theorem UpdS.grown {S : List Nat} {a w w' : World} {row : Option Nat} (h : UpdS S a w) (hg : w.grownBy w' row) (hr : ∀ k, row = some k → k ∈ S ∨ a.heap.size ≤ k) : UpdS S a w' :=
 ⟨hg.os.trans h.os, hg.tape.trans h.tape, hg.output.trans h.output, Nat.le_trans h.size hg.size, fun k hk hn => (hg.block k (Nat.lt_of_lt_of_le hk h.size) (fun e => by rcases hr k e.symm with q | q; exact hn q; omega)).trans (h.block k hk hn)⟩
theorem R_upd {α : Type} {d : Kd α} {e base : Nat} {ok : Nat → Prop} {w w' : World} {v : Value} {xs : List α} {S : List Nat} (hE : d.E = []) (h : d.R e w base ok v xs) (hu : UpdS S w w') (hd : ∀ k, v.ownBlock = some k → k ∉ S) : d.R e w' base ok v xs :=
 Kd.R_mono (Kd.R_step (Kd.R_tight2 hE h) (fun k hk hlt => hu.block k hlt (hd k hk.1.symm))) (fun _ hk => hk.2)
def GapF (w : World) (base b : Nat) (T : List Int) (l g : Nat) (S : List Nat) : Prop :=
 base ≤ b ∧ l ≤ T.length ∧ T.length + g ≤ 1000000 ∧ ∃ v, GapAt w b v (l : Int) ((l + g : Nat) : Int) ∧ Kd.R (Kd.int .i32) 21 w base (fun k => k ≠ b) v (lay T l g) ∧ S = b :: v.ownBlock.toList
theorem GapF.is {w : World} {base b : Nat} {T : List Int} {l g : Nat} {S : List Nat} (h : GapF w base b T l g S) : GapIs w base b T l g := by
 obtain ⟨h1, h2, h3, v, h4, h5, h6⟩ := h
 exact ⟨h1, h2, h3, v, h4, h5⟩
theorem GapF.of {w : World} {base b : Nat} {T : List Int} {l g : Nat} (h : GapIs w base b T l g) : ∃ S, GapF w base b T l g S ∧ ∀ k ∈ S, base ≤ k := by
 obtain ⟨h1, h2, h3, v, h4, h5⟩ := h
 refine ⟨_, ⟨h1, h2, h3, v, h4, h5, rfl⟩, fun k hk => ?_⟩
 rcases List.mem_cons.1 hk with rfl | hk
 ·exact h1
 ·exact Kd.R_base h5 k (Option.mem_toList.1 hk)
theorem GapF.below {w w' : World} {base b : Nat} {T : List Int} {l g : Nat} {S : List Nat} (h : GapF w base b T l g S) (hb : Below w.heap.size w w') : GapF w' base b T l g S := by
 obtain ⟨h1, h2, h3, v, h4, h5, h6⟩ := h
 exact ⟨h1, h2, h3, v, h4.below hb, Kd.R_below h5 hb, h6⟩
theorem GapF.upd {w w' : World} {base b : Nat} {T : List Int} {l g : Nat} {S S' : List Nat} (h : GapF w base b T l g S) (hu : UpdS S' w w') (hd : ∀ k ∈ S, k ∉ S') : GapF w' base b T l g S := by
 obtain ⟨h1, h2, h3, v, h4, h5, rfl⟩ := h
 exact ⟨h1, h2, h3, v, (hu.block b (blk_lt h4) (hd b (by simp))).trans h4, R_upd rfl h5 hu (fun k hk => hd k (by simp [hk])), rfl⟩
theorem GapF.lt {w : World} {base b : Nat} {T : List Int} {l g : Nat} {S : List Nat} (h : GapF w base b T l g S) : ∀ k ∈ S, k < w.heap.size := by
 obtain ⟨h1, h2, h3, v, h4, h5, rfl⟩ := h
 intro k hk
 rcases List.mem_cons.1 hk with rfl | hk
 ·exact blk_lt h4
 ·exact Kd.R_lt h5 k (Option.mem_toList.1 hk)
theorem GapF.nd {w : World} {base b : Nat} {T : List Int} {l g : Nat} {S : List Nat} (h : GapF w base b T l g S) : S.Nodup := by
 obtain ⟨h1, h2, h3, v, h4, h5, rfl⟩ := h
 rw [List.nodup_cons]
 refine ⟨fun hm => h5.1 b (Option.mem_toList.1 hm) rfl, ?_⟩
 cases v.ownBlock <;> simp
theorem GapF.mem {w : World} {base b : Nat} {T : List Int} {l g : Nat} {S : List Nat} (h : GapF w base b T l g S) : b ∈ S := by
 obtain ⟨h1, h2, h3, v, h4, h5, rfl⟩ := h
 simp
end Go.Proofs.YtamcacahjlaogaaDoor.F
