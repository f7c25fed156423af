/- The items of a tree in order, by the program's iterator (walk, all), and told. Conditions: the tree's numbers are small (Fine). -/
import Derived.RangeFuncNested
import Derived.RangeFuncBox
import Derived.RangeFuncBound
import Derived.RangeFuncCalls
import Derived.RangeFuncLeaves
import Derived.Shelf.Abstract
import Derived.Shelf.RegionOpen
import Derived.OwnWalkIn
import Derived.TacticsInMore
import Derived.Maps.AppendAt
import Derived.Test.YtnomidpnofhjdaaLp0
namespace Go.Proofs.Ytnomidpnofhjdaa
open Go.RowKit Go.Shelf Go.Proofs.YtnomidpnofhjdaaW.PrintWords Go.Proofs.YtnomidpnofhjdaaW.PrintMore
attribute [local go_sem] Oper.semAt_some
theorem room_none_ {F : Fence} (hd : F.depth = none) (k : Nat) : F.room k := fun d h => by rw [hd] at h; cases h
theorem RoundIn.any_ {F : Fence} (hd : F.depth = none) {m m' : Nat} {P : Program} {l : Nat} {f : FuncId} {tmps : Array Value} {assign body : Code} {w : World} {R : Ending → World → Prop}
    (h : RoundIn F m P l f tmps assign body w R) : RoundIn F m' P l f tmps assign body w R := ⟨h.1, fun c cs _ => h.2 c cs (room_none_ hd _)⟩
theorem YieldAt.any_ {F : Fence} (hd : F.depth = none) {m : Nat} (m' : Nat) {P : Program} {l : Nat} {args : Array Value} {W : World} {R : Ending → World → Prop} (h : YieldAt F m P l args W R) : YieldAt F m' P l args W R := by
  obtain ⟨fn, tmps, assign, body, hy, hR⟩ := h
  exact ⟨fn, tmps, assign, body, hy, RoundIn.any_ hd hR⟩
theorem undef_bool {b : Bool} {C : Prop} (h : some undef = some (Value.bool b)) : C := by simp [undef] at h
/-- what a round is handed -/
abbrev yv (x : Pc × Int) : Array Value := #[.agg #[.int .i64 x.1.off, .int .i64 x.1.len, .int .i64 x.1.brk], .int .i64 x.2]
theorem Rep.belowS {n₀ : Nat} {w w' : World} {t : Tree} {p : Option Nat} {S : List Nat} (h : Rep w t p S) (hS : ∀ k ∈ S, k < n₀) (hb : Below n₀ w w') : Rep w' t p S := h.move fun k hk => hb.block k (hS k hk)
theorem NodeAt.belowS {n₀ : Nat} {w w' : World} {b : Nat} {pl pr : Option Nat} {v : Pc} {s : Sm} (h : NodeAt w b pl pr v s) (hS : b < n₀) (hb : Below n₀ w w') : NodeAt w' b pl pr v s := (hb.block b hS).trans h
set_option maxRecDepth 100000 in
set_option maxHeartbeats 4000000 in
theorem walk_in (F : Fence) (hd : F.depth = none) (h6 : F.fn 33) (hro : F.round = none) (l n₀ N : Nat) (J Jx : List (Pc × Int) → World → Prop)
    (hY : ∀ m pre x W, J pre W → pre.length < N → YieldAt F m Try.prog l (yv x) W fun e W' =>
      (e = .returned (.bool true) ∧ J (pre ++ [x]) W' ∧ Below n₀ W W') ∨ (e = .returned (.bool false) ∧ Jx (pre ++ [x]) W')) (T : Tree) :
    ∀ (n : Nat) (p : Option Nat) (S : List Nat) (k : Int) (pre : List (Pc × Int)) (W : World), Rep W T p S → (∀ b ∈ S, b < n₀) → -1000000000 ≤ k → k + TP.hgt T ≤ 1000000000 → J pre W → pre.length + TP.cnt T ≤ N →
      CallsIn F n Try.prog 33 #[ptrV p, .int .i64 k, .func (.yield l) #[] #[]] W fun e W' =>
        (e = .returned (.bool true) ∧ J (pre ++ TP.flat T k) W' ∧ Below n₀ W W') ∨ (e = .returned (.bool false) ∧ ∃ q, q <+: TP.flat T k ∧ Jx (pre ++ q) W') := by
  induction T with
  | nil =>
    intro n p S k pre W ht hS hk0 hk1 hJ _
    obtain ⟨rfl, rfl⟩ := ht
    refine callsIn_of_wp Try.func33 rfl h6 ?_ hro
    simp only [Try.ntmps33, List.size_toArray, List.length_cons, List.length_nil, Nat.reduceAdd, Nat.reduceSub, Array.replicate_succ, Array.replicate_zero, List.push_toArray, List.append_toArray, List.nil_append, List.cons_append]
    simp only [ptrV, adr]
    gi_wp2
    all_goals first
      | exact undef_bool (by assumption)
      | (refine ⟨fun _ h => (by cases h), ?_⟩; gi_wp2; go_ret; exact .inl ⟨rfl, by simpa [TP.flat] using hJ, Below.refl _ _⟩)
  | node tl v tr ihl ihr =>
    intro n p S k pre W ht hS hk0 hk1 hJ hN
    obtain ⟨b, pl, pr, Sl, Sr, rfl, rfl, hb, hl, hr⟩ := ht
    have hdd : ∀ k : Nat, (F.depth.isSome = true → 1 ≤ k) := fun k h => by rw [hd] at h; cases h
    simp only [TP.cnt] at hN
    simp only [TP.hgt] at hk1
    have hbS : b < n₀ := hS b (by simp)
    have hlS : ∀ x ∈ Sl, x < n₀ := fun x hx => hS x (by simp [hx])
    have hrS : ∀ x ∈ Sr, x < n₀ := fun x hx => hS x (by simp [hx])
    have cells : ∀ W1, Below n₀ W W1 → W1.cell? ⟨b, 0, none⟩ = some (ptrV pl) ∧ W1.cell? ⟨b, 1, none⟩ = some (ptrV pr) ∧ W1.cell? ⟨b, 2, none⟩ = some (.int .i64 v.off) ∧ W1.cell? ⟨b, 3, none⟩ = some (.int .i64 v.len) ∧ W1.cell? ⟨b, 4, none⟩ = some (.int .i64 v.brk) := fun W1 hb1 => by
      have h1 := hb.belowS hbS hb1
      exact ⟨(blk_cell h1 0).trans rfl, (blk_cell h1 1).trans rfl, (blk_cell h1 2).trans rfl, (blk_cell h1 3).trans rfl, (blk_cell h1 4).trans rfl⟩
    obtain ⟨c0, -, -, -, -⟩ := cells W (Below.refl _ _)
    have hy2 : ∀ W1, J (pre ++ TP.flat tl (k + 1)) W1 → Below n₀ W W1 → YieldAt F (n - 1) Try.prog l (yv (v, k)) W1 fun e W2 =>
        (e = .returned (.bool true) ∧ J (pre ++ TP.flat tl (k + 1) ++ [(v, k)]) W2 ∧ Below n₀ W W2 ∧ W2.cell? ⟨b, 1, none⟩ = some (ptrV pr) ∧ Rep W2 tr pr Sr) ∨ (e = .returned (.bool false) ∧ Jx (pre ++ TP.flat tl (k + 1) ++ [(v, k)]) W2) := fun W1 hJ1 hb1 =>
      YieldAt.mono (hY (n - 1) _ (v, k) W1 hJ1 (by simp [TP.flat_length]; omega)) fun e W2 h => h.elim
        (fun ⟨he, hj, hb2⟩ => .inl ⟨he, hj, hb1.trans hb2, (cells W2 (hb1.trans hb2)).2.1, hr.belowS hrS (hb1.trans hb2)⟩) .inr
    have ih1 := (ihl (n - 1) pl Sl (k + 1) pre W hl hlS (by omega) (by omega) hJ (by omega)).mono (R' := fun e W1 =>
        (e = .returned (.bool true) ∧ (W1.cell? ⟨b, 2, none⟩ = some (.int .i64 v.off) ∧ W1.cell? ⟨b, 3, none⟩ = some (.int .i64 v.len) ∧ W1.cell? ⟨b, 4, none⟩ = some (.int .i64 v.brk)) ∧ YieldAt F (n - 1) Try.prog l (yv (v, k)) W1 fun e W2 =>
          (e = .returned (.bool true) ∧ J (pre ++ TP.flat tl (k + 1) ++ [(v, k)]) W2 ∧ Below n₀ W W2 ∧ W2.cell? ⟨b, 1, none⟩ = some (ptrV pr) ∧ Rep W2 tr pr Sr) ∨ (e = .returned (.bool false) ∧ Jx (pre ++ TP.flat tl (k + 1) ++ [(v, k)]) W2)) ∨
        (e = .returned (.bool false) ∧ ∃ q, q <+: TP.flat tl (k + 1) ∧ Jx (pre ++ q) W1))
      (fun e W1 h => h.elim (fun ⟨he, hj, hb1⟩ => .inl ⟨he, (cells W1 hb1).2.2, hy2 W1 hj hb1⟩) .inr)
    clear hy2 ihl cells
    refine callsIn_of_wp Try.func33 rfl h6 ?_ hro
    simp only [Try.ntmps33, List.size_toArray, List.length_cons, List.length_nil, Nat.reduceAdd, Nat.reduceSub, Array.replicate_succ, Array.replicate_zero, List.push_toArray, List.append_toArray, List.nil_append, List.cons_append]
    simp only [ptrV, adr]
    gi_wp2_with (first
      | ((try refine ⟨hdd _, ?_⟩); gi_at_call 33; refine ih1.mono ?_; clear ih1; rintro e W1 (⟨rfl, ⟨c2', c3', c4'⟩, fn, tmps, assign, body, hy, hR⟩ | ⟨rfl, q, hq, hx1⟩))
      | ((try refine ⟨hdd _, ?_⟩); refine hR.mono ?_; clear hR; rintro e W2 (⟨rfl, hJ2, hb2, c1', hr2⟩ | ⟨rfl, hx2⟩))
      | ((try refine ⟨hdd _, ?_⟩); gi_at_call 33; refine (ihr (n - 1) pr Sr (k + 1) _ _ hr2 hrS (by omega) (by omega) hJ2 (by simp [TP.flat_length]; omega)).mono ?_; rintro e W3 (⟨rfl, hJ3, hb3⟩ | ⟨rfl, q, hq, hx3⟩)))
    · go_ret
      exact .inl ⟨rfl, by simpa [TP.flat, List.append_assoc] using hJ3, hb2.trans hb3⟩
    · go_ret
      obtain ⟨r, hr'⟩ := hq
      exact .inr ⟨rfl, TP.flat tl (k + 1) ++ (v, k) :: q, ⟨r, by simp [TP.flat, ← hr']⟩, by simpa [List.append_assoc] using hx3⟩
    · go_ret
      exact .inr ⟨rfl, TP.flat tl (k + 1) ++ [(v, k)], ⟨TP.flat tr (k + 1), by simp [TP.flat]⟩, by simpa [List.append_assoc] using hx2⟩
    all_goals first
      | exact undef_bool (by assumption)
      | (refine ⟨fun _ h => (by cases h), ?_⟩; gi_wp2; go_ret; exact .inr ⟨rfl, q, hq.trans (by simp [TP.flat]), hx1⟩)
set_option maxRecDepth 100000 in
set_option maxHeartbeats 1000000 in
theorem all1_in (F : Fence) (hd : F.depth = none) (n : Nat) (h5 : F.fn 32) (h6 : F.fn 33) (hro : F.round = none) (l Bt n₀ : Nat) (p0 : Option Nat) (S : List Nat) (T : Tree) (J Jx : List (Pc × Int) → World → Prop)
    (hY : ∀ pre x W, J pre W → pre.length < TP.cnt T → YieldAt F (n - 1) Try.prog l (yv x) W fun e W' =>
      (e = .returned (.bool true) ∧ J (pre ++ [x]) W' ∧ Below n₀ W W') ∨ (e = .returned (.bool false) ∧ Jx (pre ++ [x]) W'))
    (W : World) (hBt : W.cell? ⟨Bt, 0, none⟩ = some (ptrV p0)) (hT : Rep W T p0 S) (hS : ∀ b ∈ S, b < n₀) (hc : TP.cnt T ≤ 1000000) (h0 : J [] W) :
    CallsIn F n Try.prog 32 #[.func (.yield l) #[] #[], .pointer (some ⟨Bt, 0, none⟩)] W fun e W' => (∃ v, e = .returned v) ∧
      ((∃ ys, ys = TP.flat T 0 ∧ J ys W') ∨ (∃ pre, pre <+: TP.flat T 0 ∧ Jx pre W')) := by
  have hdd : ∀ k : Nat, (F.depth.isSome = true → 1 ≤ k) := fun k h => by rw [hd] at h; cases h
  have hp := walk_in F hd h6 hro l n₀ (TP.cnt T) J Jx (fun m pre x W hj hl => YieldAt.any_ hd m (hY pre x W hj hl)) T (n - 1) p0 S 0 [] W hT hS (by omega) (by have := TP.hgt_le T; omega) h0 (by simp)
  refine callsIn_of_wp Try.func32 rfl h5 ?_ hro
  simp only [Try.ntmps32, List.size_toArray, List.length_cons, List.length_nil, Nat.reduceAdd, Nat.reduceSub, Array.replicate_succ, Array.replicate_zero, List.push_toArray, List.append_toArray, List.nil_append, List.cons_append]
  gi_wp2_with ((try refine ⟨hdd _, ?_⟩); gi_at_call 33; refine hp.mono ?_; clear hp; rintro e W1 (⟨rfl, hJ1, _⟩ | ⟨rfl, q, hq, hx⟩))
  · go_end0
    exact ⟨⟨_, rfl⟩, .inl ⟨_, rfl, by simpa using hJ1⟩⟩
  · go_end0
    exact ⟨⟨_, rfl⟩, .inr ⟨q, hq, by simpa using hx⟩⟩
set_option maxHeartbeats 1000000 in
theorem all_in (F : Fence) (n : Nat) (h4 : F.fn 29) (hro : F.round = none) (p0 : Option Nat) (w : World) :
    CallsIn F n Try.prog 29 #[ptrV p0] w fun e w' => e = .returned (.func (.func 32) #[] #[.pointer (some ⟨w.heap.size, 0, none⟩)]) ∧ w' = w.alloc (.cells #[ptrV p0] 41) := by
  refine callsIn_of_wp Try.func29 rfl h4 ?_ hro
  simp only [Try.ntmps29, List.size_toArray, List.length_cons, List.length_nil, Nat.reduceAdd, Nat.reduceSub, Array.replicate_succ, Array.replicate_zero, List.push_toArray, List.append_toArray, List.nil_append, List.cons_append]
  gi_wp2
  go_ret
  exact ⟨rfl, rfl⟩
theorem all_stops (F : Fence) (hd : F.depth = none) (n : Nat) (h5 : F.fn 32) (h6 : F.fn 33) (hro : F.round = none) (Bt n₀ : Nat) (p0 : Option Nat) (S : List Nat) (T : Tree) (w : World) (hBt : Bt < w.heap.size) (hn₀ : n₀ ≤ w.heap.size)
    (hc : w.cell? ⟨Bt, 0, none⟩ = some (ptrV p0)) (hT : Rep w T p0 S) (hS : ∀ b ∈ S, b < n₀) (hk : TP.cnt T ≤ 1000000) :
    SeqStopsK F n Try.prog 32 #[.pointer (some ⟨Bt, 0, none⟩)] yv (Below n₀) (fun ys => ys = TP.flat T 0) (fun pre => pre <+: TP.flat T 0) (TP.cnt T) w := fun l J Jx W hW _ _ hY h0 =>
  all1_in F hd n h5 h6 hro l Bt n₀ p0 S T J Jx hY W ((hW.cell (p := ⟨Bt, 0, none⟩) hBt).trans hc) (hT.belowS hS (hW.mono hn₀)) hS hk h0
def icells : List (Pc × Int) → List Value | [] => [] | x :: xs => [.int .i64 x.1.off, .int .i64 x.1.len, .int .i64 x.1.brk, .int .i64 x.2] ++ icells xs
theorem icells_snoc (xs : List (Pc × Int)) (x : Pc × Int) : icells (xs ++ [x]) = icells xs ++ [.int .i64 x.1.off, .int .i64 x.1.len, .int .i64 x.1.brk, .int .i64 x.2] := by
  induction xs with
  | nil => rfl
  | cons y ys ih => simp only [List.cons_append, icells, ih, List.append_assoc]
theorem cells_new_ (W : World) (cs : List Value) (t : TypeId) (j : Nat) (u : Value) (h : cs[j]? = some u) : (W.alloc (.cells cs.toArray t)).cell? (Addr.add ⟨W.heap.size, 0, none⟩ j) = some u := by
  have h1 := blk_cell (blk_new W (.cells cs.toArray t)) j
  rw [show (Addr.add ⟨W.heap.size, 0, none⟩ j) = ⟨W.heap.size, j, none⟩ by simp [Addr.add]; intro h; omega]
  rw [h1]; simpa using h
theorem itemInfo_ : (Try.prog.info? 50).map (fun i => (i.zero, i.size, i.bytes)) = some (some (.agg #[.int .i64 0, .int .i64 0, .int .i64 0, .int .i64 0]), 4, 32) := info50
def toldI (n₀ B0 B1 : Nat) (w : World) (pre : List (Pc × Int)) (W : World) : Prop :=
  ((∃ v, Boxed W B1 25 v ∧ W.ownsRow n₀ 50 4 v pre.length (icells pre) ∧ True) ∧ Boxed W B0 25 (.slice none 0 0)) ∧ Below n₀ w W
set_option maxRecDepth 100000 in
set_option maxHeartbeats 4000000 in
theorem told_in (F : Fence) (hd : F.depth = none) (n : Nat) (h2 : F.fn 23) (h4 : F.fn 29) (h5 : F.fn 32) (h6 : F.fn 33) (hro : F.round = none) (hn : 3 ≤ n)
    (p0 : Option Nat) (S : List Nat) (T : Tree) (w : World) (hT : Rep w T p0 S) (hk : TP.cnt T ≤ 1000000) :
    CallsIn F n Try.prog 23 #[ptrV p0] w fun e W' => ∃ v, e = .returned (.agg #[v]) ∧ W'.ownsRow w.heap.size 50 4 v (TP.cnt T) (icells (TP.flat T 0)) ∧ Below w.heap.size w W' := by
  have h1 : 1 ≤ n := by omega
  obtain ⟨i0, hi, hz0, hz1, hz2⟩ := info_parts itemInfo_
  refine callsIn_of_wp_marks Try.func23 rfl h2 ?_ hro
  simp only [Try.ntmps23, List.size_toArray, List.length_cons, List.length_nil, Nat.reduceAdd, Nat.reduceSub, Array.replicate_succ, Array.replicate_zero, List.push_toArray, List.append_toArray, List.nil_append, List.cons_append]
  gi_wp2_with (gi_at_call 29; refine (all_in F (n - 1) h4 hro _ _).mono ?_; rintro e w' ⟨rfl, rfl⟩)
  have b0 := ((Boxed.new w 25 (.slice none 0 0)).alloc (.cells #[.slice none 0 0] 25)).alloc (.cells #[ptrV p0] 41)
  have b1 := (Boxed.new (w.alloc (.cells #[.slice none 0 0] 25)) 25 (.slice none 0 0)).alloc (.cells #[ptrV p0] 41)
  have bN := Boxed.new ((w.alloc (.cells #[.slice none 0 0] 25)).alloc (.cells #[.slice none 0 0] 25)) 41 (ptrV p0)
  simp only [World.size_alloc] at b1 bN
  have hB0 : Below w.heap.size w (((w.alloc (.cells #[.slice none 0 0] 25)).alloc (.cells #[.slice none 0 0] 25)).alloc (.cells #[ptrV p0] 41)) := (((Below.refl _ w).alloc (Nat.le_refl _) _).alloc (by simp) _).alloc (by simp; omega) _
  have hsz : (((w.alloc (.cells #[.slice none 0 0] 25)).alloc (.cells #[.slice none 0 0] 25)).alloc (.cells #[ptrV p0] 41)).heap.size = w.heap.size + 3 := by simp
  obtain ⟨W0, hW0⟩ : ∃ W0, ((w.alloc (.cells #[.slice none 0 0] 25)).alloc (.cells #[.slice none 0 0] 25)).alloc (.cells #[ptrV p0] 41) = W0 := ⟨_, rfl⟩
  rw [hW0] at b0 b1 bN hB0 hsz ⊢
  clear hW0
  have hT0 := hT.below hB0
  have hSl : ∀ b ∈ S, b < w.heap.size := hT.lt
  refine wpIn_rangeFunc_ownH hro h1 (gf := 32) (lb := #[.pointer (some ⟨w.heap.size + 1 + 1, 0, none⟩)]) rfl h5 (enters_of Try.func32 (by kernel_rfl) rfl)
    (all_stops F hd (n - 1) h5 h6 hro (w.heap.size + 1 + 1) w.heap.size p0 S T W0 (by omega) (by omega) bN.cell hT0 hSl hk) belowK_t (belowK_b (by omega)) (Below.refl _ _) (fun _ => rfl)
    (fun pre W => ((∃ v, Boxed W (w.heap.size + 1) 25 v ∧ W.ownsRow w.heap.size 50 4 v pre.length (icells pre) ∧ True) ∧ Boxed W w.heap.size 25 (.slice none 0 0)) ∧ Below w.heap.size w W)
    (fun _ _ _ => False)
    (OwnFrom.and (OwnFrom.and (Own.from (holdsRow_own w.heap.size (w.heap.size + 1) 25 50 4 (fun pre : List (Pc × Int) => pre.length) icells (fun _ _ => True)) _) (Own.from (boxed_own w.heap.size 25 (fun _ => .slice none 0 0)) _)) (ownFrom_below (Nat.le_refl _) (by omega)))
    (fun _ _ _ _ _ hs _ _ => hs)
    ⟨⟨⟨_, b1, World.ownsRow_nil _ _ _ _, trivial⟩, b0⟩, hB0⟩
    (fun x a' W => ∃ Bx, w.heap.size + 1 < Bx ∧ W.heap[Bx]? = some (.cells #[.int .i64 x.1.off, .int .i64 x.1.len, .int .i64 x.1.brk] 38 (0, 0)) ∧ a' = { tmps := #[ptrV p0, undef, .pointer (some ⟨w.heap.size, 0, none⟩), .pointer (some ⟨w.heap.size + 1, 0, none⟩), .pointer (some ⟨Bx, 0, none⟩), .int .i64 x.2, ptrV p0, .func (.func 32) #[] #[.pointer (some ⟨w.heap.size + 1 + 1, 0, none⟩)], .agg #[.int .i64 x.1.off, .int .i64 x.1.len, .int .i64 x.1.brk], .int .i64 x.2, undef, undef, undef, undef, undef, undef, undef, undef, undef], defers := [] })
    (fun x a' _ X Y row hs hg hr => by
      obtain ⟨Bx, h1, h2, h3⟩ := hs
      refine ⟨Bx, h1, (hg.block Bx (blk_lt h2) (fun e => ?_)).trans h2, h3⟩
      obtain ⟨_, o, ho, hc⟩ := hr Bx e.symm
      rw [h2] at ho; cases ho; cases hc)
    ?assign ?body ?done ?stop
  case assign =>
    rintro l pre x W K ⟨⟨⟨v, hv, hrow, -⟩, hv0⟩, hB⟩ hK
    gi_wp2
    exact hK _ _ ((KeepsOthers.alloc _ _).from _) ((Below.refl _ W).alloc hB.size _) ⟨⟨⟨v, hv.alloc _, hrow.alloc _, trivial⟩, hv0.alloc _⟩, hB.alloc hB.size _⟩ ⟨W.heap.size, hv.lt, blk_new W _, rfl⟩
  case body =>
    rintro l pre x a' W hl ⟨r, hr⟩ ⟨⟨⟨v, hv, hrow, -⟩, hv0⟩, hB⟩ ⟨Bx, hBx, bX, rfl⟩ hlt
    have hc := hv.cell
    have x0 : W.cell? ⟨Bx, 0, none⟩ = some (.int .i64 x.1.off) := (blk_cell bX 0).trans rfl
    have x1 : W.cell? ⟨Bx, 1, none⟩ = some (.int .i64 x.1.len) := (blk_cell bX 1).trans rfl
    have x2 : W.cell? ⟨Bx, 2, none⟩ = some (.int .i64 x.1.brk) := (blk_cell bX 2).trans rfl
    gi_wp2_with (gi_at_builtin; refine wpListIn_append_own _ rfl _ _ 23 rfl w.heap.size 50 i0 (.agg #[.int .i64 0, .int .i64 0, .int .i64 0, .int .i64 0]) 4 32 Try.underlying23 hi hz0 hz1 hz2 rfl (by decide) _ _ _ rfl (hrow.alloc _) ⟨W.heap.size, 0, none⟩ 1 1 [.int .i64 x.1.off, .int .i64 x.1.len, .int .i64 x.1.brk, .int .i64 x.2] rfl rfl (cells_new_ _ [.int .i64 x.1.off, .int .i64 x.1.len, .int .i64 x.1.brk, .int .i64 x.2] _) (by simp [Value.oneCell']) (by unfold maxLen; omega) (by omega) (by have := hB.size; simp; omega) ?_; intro v' w1 hown' hgrow _; obtain ⟨g', cap', rfl⟩ := ownsRow_succ hown'; obtain ⟨hv1, hv2, hr2, hk2, hb2⟩ := hv.appended (by decide) hrow hB.size (Nat.le_succ _) hown' hgrow; have hc1 := hv1.cell; have hf1 := hv1.frozen)
    have hne : (w.heap.size : Nat) ≠ w.heap.size + 1 := by omega
    have hv01 : Boxed w1 w.heap.size 25 (.slice none 0 0) := (hv0.alloc _).kept hgrow (hv0.not_row (by decide) hrow)
    exact ⟨hk2.from _, hb2, ⟨⟨⟨_, hv2, by rw [List.length_append, icells_snoc]; exact hr2, trivial⟩, hv01.other hne _⟩, hB.trans hb2⟩⟩
  case done =>
    rintro D ys W hD rfl ⟨⟨⟨v, hv, hrow, -⟩, hv0⟩, hB⟩ hK
    have hc := hv.cell
    have hc0 := hv0.cell
    have hf0 := hv0.frozen
    obtain ⟨Av, cv_, rfl⟩ := own_slice hrow
    gi_wp2
    have hKo := KeepsOthers.setCell W ⟨w.heap.size, 0, none⟩ (Value.slice Av (TP.flat T 0).length cv_)
    have hK2 := hKo.same D _ hK rfl
    have hlt1 : (w.heap.size : Nat) ≠ w.heap.size + 1 := by omega
    have hrow2 := hrow.kept (grownBy_setCell' W w.heap.size (Value.slice Av (TP.flat T 0).length cv_)) (.inr (by have := (hv0.not_row (by decide) hrow).symm; exact this))
    have hb2 := hv0.set (Value.slice Av (TP.flat T 0).length cv_)
    have hB2 := hB.setCell (p := ⟨w.heap.size, 0, none⟩) (Nat.le_refl _) (Value.slice Av (TP.flat T 0).length cv_)
    refine ⟨by simp, .inl ⟨_, _, rfl, run_takeDeferred hK2, ?_⟩⟩
    have hD2 : D ≠ w.heap.size := fun e => by subst e; rw [show W.heap[w.heap.size]? = _ from hv0] at hK; cases hK
    have hb3 : Boxed ((W.setCell ⟨w.heap.size, 0, none⟩ (Value.slice Av (TP.flat T 0).length cv_)).putObj D (.deferred none)) w.heap.size 25 (Value.slice Av (TP.flat T 0).length cv_) := (World.putObj_heap_other hD2.symm).trans hb2
    refine ⟨.agg #[.slice Av (TP.flat T 0).length cv_], ?_, _, rfl, ?_, ?_⟩
    · refine results_single rfl ?_
      exact .cell w.heap.size 25 #[.slice Av (TP.flat T 0).length cv_] (0, 0) _ rfl hb3 Try.underlying25 rfl (by kernel_rfl) .nil
    · rw [← TP.flat_length T 0]; exact ownsRow_putObj hrow2 _ hK2 rfl
    · exact hB2.trans (belowK_b (w := w) (Nat.le_refl _) _ D _ _ (by omega) hK2 rfl rfl)
  case stop =>
    rintro D c pre W _ _ h _
    exact h.elim
/-- an item told of a node's piece and level -/
def toIt (x : Pc × Int) : It := ⟨⟨x.1.off, x.1.len, x.1.brk⟩, x.2⟩
theorem icells_reps (base : Nat) (w : World) (ok : Nat → Prop) (xs : List (Pc × Int)) : Reps (QBase.k50.M w base ok) 4 (xs.map toIt) (icells xs) := by
  have key : ∀ n, ∀ xs : List (Pc × Int), xs.length = n → Reps (QBase.k50.M w base ok) 4 (xs.map toIt) (icells xs) := by
    intro n
    induction n with
    | zero => intro xs h; obtain rfl := List.eq_nil_of_length_eq_zero h; exact Reps.none _ _
    | succ n ih =>
      intro xs h
      obtain ⟨ys, y, rfl⟩ : ∃ ys y, xs = ys ++ [y] := ⟨xs.dropLast, xs.getLast (by intro e; subst e; simp at h), (List.dropLast_concat_getLast _).symm⟩
      rw [List.map_append, icells_snoc]
      exact (ih ys (by simpa using h)).snoc (QBase.k50_mkM w base ok (toIt y)) rfl
  exact key _ xs rfl
theorem told_any (p0 : Option Nat) (S : List Nat) (T : Tree) (w : World) (hT : Rep w T p0 S) (hk : TP.cnt T ≤ 1000000) :
    Calls Try.prog 23 #[ptrV p0] w fun e W' => ∃ v, e = .returned (.agg #[v]) ∧ Kd.R QBase.k50 50 W' w.heap.size (fun _ => True) v ((TP.flat T 0).map toIt) ∧ Below w.heap.size w W' := by
  refine (callsIn_wide (n := 3)).1 ?_
  refine (told_in Fence.wide rfl 3 trivial trivial trivial trivial rfl (Nat.le_refl _) p0 S T w hT hk).mono ?_
  rintro e W' ⟨v, rfl, ho, hb⟩
  refine ⟨v, rfl, ⟨fun _ _ => trivial, icells (TP.flat T 0), ?_, icells_reps _ _ _ _⟩, hb⟩
  rw [List.length_map, TP.flat_length]
  exact ho
end Go.Proofs.Ytnomidpnofhjdaa
