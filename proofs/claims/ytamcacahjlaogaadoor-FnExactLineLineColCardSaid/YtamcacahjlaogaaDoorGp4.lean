/- Gap buffers of runes: closed, move, remove, walked. No condition but the bounds. -/
import Derived.Test.YtamcacahjlaogaaDoorGp1
namespace Go.Proofs.YtamcacahjlaogaaDoor
open Go.RowKit Go.Proofs.YtamcacahjlaogaaDoorW.PrintWords Go.Proofs.YtamcacahjlaogaaDoorW.PrintLast Go.Proofs.YtamcacahjlaogaaDoorW.PrintMore Er
def txt (xs : List Int) (lo hi : Int) : List Int := xs.take lo.toNat ++ xs.drop hi.toNat
end Go.Proofs.YtamcacahjlaogaaDoor
namespace Go.Proofs.YtamcacahjlaogaaDoor
open Go.RowKit Go.Proofs.YtamcacahjlaogaaDoorW.PrintWords Go.Proofs.YtamcacahjlaogaaDoorW.PrintLast Go.Proofs.YtamcacahjlaogaaDoorW.PrintMore Er
def cX (a : Addr) (w : World) : Value := (w.cell? a).getD undef
structure CS (X : Nat) (w w' : World) : Prop where
 bel : Below w.heap.size w w'
 hX : w.heap.size ≤ X
 blk : ∃ p q r, w'.heap[X]? = some (.cells #[p, q, r] 76 (0, 0))
theorem CS.below {X : Nat} {w w1 w2 : World} (h : CS X w w1) (hb : Below w1.heap.size w1 w2) : CS X w w2 := by
 obtain ⟨p, q, r, e⟩ := h.blk
 exact ⟨below_step h.bel hb, h.hX, p, q, r, blk_below e hb⟩
theorem CS.alloc {X : Nat} {w w1 : World} {o : Obj} (h : CS X w w1) : CS X w (w1.alloc o) := h.below ((Below.refl _ w1).alloc (Nat.le_refl _) _)
theorem CS.drew {X : Nat} {w w1 : World} (h : CS X w w1) : CS X w w1.drew := h.below (Below.refl _ w1).drew
theorem CS.set0 {X : Nat} {w w1 : World} (h : CS X w w1) (v : Value) : CS X w (w1.setCell ⟨X, 0, none⟩ v) := by
 obtain ⟨p, q, r, e⟩ := h.blk
 exact ⟨below_set h.bel h.hX, h.hX, v, q, r, blk_put e 0 v rfl⟩
theorem CS.set1 {X : Nat} {w w1 : World} (h : CS X w w1) (v : Value) : CS X w (w1.setCell ⟨X, 1, none⟩ v) := by
 obtain ⟨p, q, r, e⟩ := h.blk
 exact ⟨below_set h.bel h.hX, h.hX, p, v, r, blk_put e 1 v rfl⟩
theorem CS.set2 {X : Nat} {w w1 : World} (h : CS X w w1) (v : Value) : CS X w (w1.setCell ⟨X, 2, none⟩ v) := by
 obtain ⟨p, q, r, e⟩ := h.blk
 exact ⟨below_set h.bel h.hX, h.hX, p, q, v, blk_put e 2 v rfl⟩
theorem CS.cell {X : Nat} {w w1 : World} {a : Addr} {v : Value} (h : CS X w w1) (e : w.cell? a = some v) : w1.cell? a = some v := (h.bel.cell (World.block_lt_of_cell? w _ e)).trans e
theorem CS.x {X : Nat} {w w1 : World} (h : CS X w w1) : w1.cell? ⟨X, 0, none⟩ = some (cX ⟨X, 0, none⟩ w1) ∧ w1.cell? ⟨X, 1, none⟩ = some (cX ⟨X, 1, none⟩ w1) ∧ w1.cell? ⟨X, 2, none⟩ = some (cX ⟨X, 2, none⟩ w1) := by
 obtain ⟨p, q, r, e⟩ := h.blk
 unfold cX
 rw [(blk_cell e 0).trans rfl, (blk_cell e 1).trans rfl, (blk_cell e 2).trans rfl]
 exact ⟨rfl, rfl, rfl⟩
theorem CS.f {X : Nat} {w w1 : World} (h : CS X w w1) (i : Nat) : w1.frozen? ⟨X, i, none⟩ = false := by
 obtain ⟨p, q, r, e⟩ := h.blk
 exact blk_frozen e i
set_option maxHeartbeats 4000000 in
set_option maxRecDepth 100000 in
theorem closed_any (w : World) (base b : Nat) (T : List Int) (l g : Nat) (h : GapIs w base b T l g) :
  Calls Tryd.prog 63 #[gpt b] w fun e w' => ∃ v, e = .returned (.agg #[v, .int .i64 (l : Nat), .int .i64 (l + g : Nat)]) ∧ Kd.R (Kd.int .i32) 21 w' w.heap.size (fun _ => True) v (lay T l g) ∧ Below w.heap.size w w' := by
 obtain ⟨h1, h2, h3, v, h4, h5⟩ := h
 obtain ⟨A, c, rfl⟩ := Kd.R_slice h5
 obtain ⟨-, hc, hr⟩ := Kd.R_reads' h5
 have hlen := lay_length T l g h2
 have hlm : (lay T l g).length ≤ 1000000 := by omega
 generalize lay T l g = xs at h4 h5 hc hr hlm ⊢
 obtain ⟨w0, e0⟩ : ∃ y, w.alloc (.cells #[.slice none 0 0, .int .i64 0, .int .i64 0] 76) = y := ⟨_, rfl⟩
 have hb0 : Below w.heap.size w w0 := by subst e0; exact (Below.refl _ w).alloc (Nat.le_refl _) _
 have HX : Aside0 (w0.heap[w.heap.size]? = some (.cells #[.slice none 0 0, .int .i64 0, .int .i64 0] 76 (0, 0))) := ⟨by subst e0; exact blk_new w (.cells #[.slice none 0 0, .int .i64 0, .int .i64 0] 76)⟩
 have W0 := Aside0.mk ((blk_cell h4 0).trans rfl : w.cell? ⟨b, 0, none⟩ = some (.slice A xs.length c))
 have W1 := Aside0.mk ((blk_cell h4 1).trans rfl : w.cell? ⟨b, 1, none⟩ = some (.int .i64 l))
 have W2 := Aside0.mk ((blk_cell h4 2).trans rfl : w.cell? ⟨b, 2, none⟩ = some (.int .i64 (l + g : Nat)))
 have cs1 : CS w.heap.size w w0 := ⟨hb0, Nat.le_refl _, _, _, _, HX.out⟩
 have q0 := cs1.cell W0.out
 have q1 := cs1.cell W1.out
 have q2 := cs1.cell W2.out
 obtain ⟨z0, z1, z2⟩ := cs1.x
 have fz0 := cs1.f 0
 have fz1 := cs1.f 1
 have fz2 := cs1.f 2
 have HR := Aside0.mk hr
 have hXlt := Aside0.mk (blk_lt HX.out)
 clear h4 h5 hr hb0 hlen HX
 simp only [gpt]
 go_enter Tryd.func63, Tryd.ntmps63
 go_wp2
 go_region_held3 (fun w' => w'.cell? ⟨b, 0, none⟩ = some (.slice A xs.length c) ∧ w'.cell? ⟨b, 1, none⟩ = some (.int .i64 l) ∧ w'.cell? ⟨b, 2, none⟩ = some (.int .i64 (l + g : Nat)) ∧ w'.cell? ⟨w.heap.size, 0, none⟩ = some (cX ⟨w.heap.size, 0, none⟩ w') ∧ w'.cell? ⟨w.heap.size, 1, none⟩ = some (cX ⟨w.heap.size, 1, none⟩ w') ∧ w'.cell? ⟨w.heap.size, 2, none⟩ = some (cX ⟨w.heap.size, 2, none⟩ w') ∧ w'.frozen? ⟨w.heap.size, 0, none⟩ = false ∧ w'.frozen? ⟨w.heap.size, 1, none⟩ = false ∧ w'.frozen? ⟨w.heap.size, 2, none⟩ = false ∧ CS w.heap.size w w')
  (first | (refine (fun (x : CS w.heap.size w _) => ⟨x.cell W0.out, x.cell W1.out, x.cell W2.out, x.x.1, x.x.2.1, x.x.2.2, x.f 0, x.f 1, x.f 2, x⟩) ?_; repeat (first | assumption | (with_reducible apply CS.drew) | (with_reducible apply CS.alloc) | (with_reducible apply CS.set0) | (with_reducible apply CS.set1) | (with_reducible apply CS.set2))))
  (first | (refine step_app_nil .i32 (fun _ => True) (by rfl) (.const (.slice none 0 0)) (.tmp 6) 44 21 (.int .i32 0) 4 (by rfl) Tryd.underlying44 QBase.info21 (by rfl) (by decide) (by rfl) xs A xs.length c (by rfl) (Kd.C_below HR.out (CS.bel (X := w.heap.size) (w := w) (by first | assumption | exact CS.drew (by assumption) | exact CS.alloc (by assumption)))) (fun _ _ => trivial) (by omega) ?_; intro v1 w2 ho hb2; have os2 := CS.below (X := w.heap.size) (w := w) (by first | assumption | exact CS.drew (by assumption) | exact CS.alloc (by assumption)) hb2; obtain ⟨A2, c2, rfl⟩ := Kd.R_slice ho))
 obtain ⟨p, q, r, eb⟩ := os2.blk
 obtain ⟨w3, e3⟩ : ∃ y, (((w2.setCell ⟨w.heap.size, 0, none⟩ (.slice A2 xs.length c2)).setCell ⟨w.heap.size, 1, none⟩ (.int .i64 l)).setCell ⟨w.heap.size, 2, none⟩ (.int .i64 ((l : Int) + g))) = y := ⟨_, rfl⟩
 have HB3 : Aside0 (Below w.heap.size w w3) := ⟨by subst e3; exact (((os2.set0 _).set1 _).set2 _).bel⟩
 have BK3 : Aside0 (w3.heap[w.heap.size]? = some (.cells #[.slice A2 xs.length c2, .int .i64 l, .int .i64 ((l : Int) + g)] 76 (0, 0))) := ⟨by subst e3; exact blk_put (blk_put (blk_put eb 0 _ rfl) 1 _ rfl) 2 _ rfl⟩
 have HR3 : Aside0 (Kd.R (Kd.int .i32) 21 w3 w.heap.size (fun _ => True) (.slice A2 xs.length c2) xs) := ⟨by
  have hne : ∀ k, w0.heap.size ≤ k → k ≠ w.heap.size := fun k hk => by have := hXlt.out; omega
  have h1 := Kd.R_mono (ok' := fun k => k ≠ w.heap.size) (Kd.R_bound ho) (fun k hk => hne k hk.2.1)
  have h2 := Kd.R_far (p := ⟨w.heap.size, 2, none⟩) (Kd.R_far (p := ⟨w.heap.size, 1, none⟩) (Kd.R_far (p := ⟨w.heap.size, 0, none⟩) h1 (fun _ h => h) (.slice A2 xs.length c2)) (fun _ h => h) (.int .i64 l)) (fun _ h => h) (.int .i64 ((l : Int) + g))
  rw [e3] at h2
  exact Kd.R_lower (Kd.R_mono h2 (fun _ _ => trivial)) (Nat.le_of_lt hXlt.out)⟩
 rw [e3]
 clear e3 eb os2 ho hb2
 go_wp2
 refine bodyPost_ret (results_single rfl (.cell w.heap.size 76 _ (0, 0) _ rfl BK3.out Tryd.underlying76 rfl (by kernel_rfl) .nil)) rfl ?_
 exact ⟨_, rfl, HR3.out, HB3.out⟩
end Go.Proofs.YtamcacahjlaogaaDoor
