/- A new node over two trees (join3), walked. -/
import Derived.Test.YtnomidpnofhjdaaTr2
namespace Go.Proofs.Ytnomidpnofhjdaa
open Go.RowKit Go.Proofs.YtnomidpnofhjdaaW.PrintMore
abbrev pcV (v : Pc) : Value := .agg #[.int .i64 v.off, .int .i64 v.len, .int .i64 v.brk]
set_option maxHeartbeats 1000000 in
set_option maxRecDepth 100000 in
theorem join3_any (w : World) (pl pr : Option Nat) (l r : Tree) (v : Pc) (Sl Sr : List Nat)
    (hl : Rep w l pl Sl) (hr : Rep w r pr Sr) (nd : (Sl ++ Sr).Nodup) :
    Calls Try.prog 28 #[ptrV pl, pcV v, ptrV pr] w fun e w' => ∃ n, e = .returned (ptrV (some n)) ∧ w.heap.size ≤ n ∧ UpdS [] w w' ∧ Rep w' (.node l v r) (some n) (n :: (Sl ++ Sr)) := by
  go_enter Try.func28, Try.ntmps28
  go_wp2_with fail
  obtain ⟨w1, e1⟩ : ∃ y, (w.alloc (.cells #[.int .i64 v.off, .int .i64 v.len, .int .i64 v.brk] 38)).alloc (.cells #[ptrV pl, ptrV pr, .int .i64 v.off, .int .i64 v.len, .int .i64 v.brk, .int .i64 0, .int .i64 0, .int .i64 0, .int .i64 0] 62) = y := ⟨_, rfl⟩
  rw [e1]
  have hB : Below w.heap.size w w1 := by subst e1; exact ((Below.refl _ w).alloc (Nat.le_refl _) _).alloc (by simp) _
  have hn : NodeAt w1 (w.heap.size + 1) pl pr v ⟨0, 0, 0, 0⟩ := by
    subst e1
    have h := Go.Proofs.YtnomidpnofhjdaaW.PrintWords.blk_new (w.alloc (.cells #[.int .i64 v.off, .int .i64 v.len, .int .i64 v.brk] 38)) (.cells #[ptrV pl, ptrV pr, .int .i64 v.off, .int .i64 v.len, .int .i64 v.brk, .int .i64 0, .int .i64 0, .int .i64 0, .int .i64 0] 62)
    rw [show (w.alloc (.cells #[.int .i64 v.off, .int .i64 v.len, .int .i64 v.brk] 38)).heap.size = w.heap.size + 1 by simp] at h
    exact h
  clear e1
  have hl1 := hl.upd (UpdS.of_below (S := []) hB) (by simp)
  have hr1 := hr.upd (UpdS.of_below (S := []) hB) (by simp)
  have nd1 : ((w.heap.size + 1) :: (Sl ++ Sr)).Nodup := by
    refine List.nodup_cons.2 ⟨fun h => ?_, nd⟩
    rcases List.mem_append.1 h with h | h
    · have := hl.lt _ h; omega
    · have := hr.lt _ h; omega
  refine (sum_node w1 _ pl pr l r v _ Sl Sr hn hl1 hr1 nd1).mono ?_
  rintro e w2 ⟨rfl, hu2, hrep2⟩
  go_wp2_with fail
  go_ret
  exact ⟨_, rfl, by omega, (UpdS.of_below (S := []) hB).trans hu2 (fun k hk => .inr (by simp only [List.mem_singleton] at hk; omega)), hrep2⟩
end Go.Proofs.Ytnomidpnofhjdaa
