/- Gap buffers of runes: move, remove, walked. No condition but the bounds. -/
import Derived.Test.YtamcacahjlaogaaDoorFa
namespace Go.Proofs.YtamcacahjlaogaaDoor.F
open Go.RowKit Go.Proofs.YtamcacahjlaogaaDoorW.PrintWords Go.Proofs.YtamcacahjlaogaaDoorW.PrintLast Go.Proofs.YtamcacahjlaogaaDoorW.PrintMore Er
structure MoveL (w : World) (base b : Nat) (T : List Int) (g a : Nat) (S : List Nat) (k : Nat) (_ : Value) (wr : World) : Prop where
 st : ∃ l : Nat, (l = a + k ∨ (l ≤ a ∧ k = 0)) ∧ GapF wr base b T l g S
 bel : UpdS S w wr
structure MoveR (w : World) (base b : Nat) (T : List Int) (g a : Nat) (S : List Nat) (k : Nat) (_ : Value) (wr : World) : Prop where
 st : ∃ l : Nat, l + k = a ∧ GapF wr base b T l g S
 bel : UpdS S w wr
set_option maxHeartbeats 8000000 in
set_option maxRecDepth 100000 in
theorem move_any (w : World) (base b : Nat) (T : List Int) (l g a : Nat) (S : List Nat) (h : GapF w base b T l g S) (ha : a ≤ T.length) :
  Calls Tryd.prog 89 #[gpt b, .int .i64 a] w fun e w' => e = .returned (.tuple #[]) ∧ GapF w' base b T a g S ∧ UpdS S w w' := by
 have AT : Aside0 (MoveL w base b T g a S (l - a) undef w) := ⟨⟨⟨l, by omega, h⟩, UpdS.refl _ _⟩⟩
 clear h
 simp only [gpt]
 go_enter Tryd.func89, Tryd.ntmps89
 go_wp2
 go_loopg [5] (l - a) (fun k v5 wr => MoveL w base b T g a S k v5 wr)
 case atStart => exact AT.out
 case round =>
  clear AT
  obtain ⟨⟨l', hk, hG⟩, hB⟩ := hrel
  obtain ⟨g1, g2, g3, v, hblk, hR, hS⟩ := hG
  by_cases cl : a < l'
  ·obtain ⟨m, rfl⟩ : ∃ m, l' = m + 1 := ⟨l' - 1, by omega⟩
   have hlen := lay_length T (m + 1) g g2
   obtain ⟨r, cp, rfl, hrb, hrl, cl_, hrc⟩ := Kd.R_form hR (by omega)
   have hrne : r ≠ b := hR.1 r rfl
   have hS2 : Aside0 (S = [b, r]) := ⟨hS⟩
   have hbS : b ∈ S ∨ w.heap.size ≤ b := .inl (by rw [hS2.out]; simp)
   have hrS : r ∈ S ∨ w.heap.size ≤ r := .inl (by rw [hS2.out]; simp)
   clear hS
   have BK := Aside0.mk hblk
   have HR := Aside0.mk hR
   have HK := Aside0.mk hk
   have HB := Aside0.mk hB
   have q0 : wr.cell? ⟨b, 0, none⟩ = some (.slice (some ⟨r, 0, none⟩) (lay T (m + 1) g).length cp) := (blk_cell hblk 0).trans rfl
   have q1 : wr.cell? ⟨b, 1, none⟩ = some (.int .i64 ((m : Int) + 1)) := (blk_cell hblk 1).trans rfl
   obtain ⟨n, HN⟩ : ∃ n, Aside0 (n = m + g) := ⟨_, ⟨rfl⟩⟩
   have q2 : wr.cell? ⟨b, 2, none⟩ = some (.int .i64 ((n : Int) + 1)) := (blk_cell hblk 2).trans (by have := HN.out; simp; omega)
   have f1 := blk_frozen hblk 1
   have f2 := blk_frozen hblk 2
   clear hblk hR hk hB hrc cl_
   have EX : Aside0 (∃ ys, ys = lay T (m + 1) g) := ⟨⟨_, rfl⟩⟩
   obtain ⟨xs, hxs⟩ := EX.out
   rw [← hxs] at hlen q0 BK HR
   have HXS := Aside0.mk hxs
   have HLEN := Aside0.mk hlen
   have bT : T.length + g < 2000000 := by omega
   clear hlen hxs EX
   have b1 : m < 1000000 := by omega
   have b2 : g < 1000000 := by omega
   have b3 : a ≤ m := by omega
   have b4 : n < 2000000 := by have := HN.out; omega
   go_wp2
   obtain ⟨w2, e2⟩ : ∃ y, (wr.setCell ⟨b, 1, none⟩ (.int .i64 m)).setCell ⟨b, 2, none⟩ (.int .i64 n) = y := ⟨_, rfl⟩
   have hbb : base ≤ b := g1
   have HB2 : Aside0 (UpdS S w w2) := ⟨by subst e2; exact (HB.out.setCell (p := ⟨b, 1, none⟩) hbS _).setCell (p := ⟨b, 2, none⟩) hbS _⟩
   have BK2 : Aside0 (w2.heap[b]? = some (.cells #[.slice (some ⟨r, 0, none⟩) xs.length cp, .int .i64 m, .int .i64 n] 94 (0, 0))) := ⟨by subst e2; exact blk_put (blk_put BK.out 1 _ rfl) 2 _ rfl⟩
   have HR2 : Aside0 (Kd.R (Kd.int .i32) 21 w2 base (fun k => k ≠ b) (.slice (some ⟨r, 0, none⟩) xs.length cp) xs) := ⟨by subst e2; exact Kd.R_far (p := ⟨b, 2, none⟩) (Kd.R_far (p := ⟨b, 1, none⟩) HR.out (fun _ h => h) _) (fun _ h => h) _⟩
   rw [e2]
   clear e2 q0 q1 q2 f1 f2
   have q0 : w2.cell? ⟨b, 0, none⟩ = some (.slice (some ⟨r, 0, none⟩) xs.length cp) := (blk_cell BK2.out 0).trans rfl
   have q1 : w2.cell? ⟨b, 1, none⟩ = some (.int .i64 m) := (blk_cell BK2.out 1).trans rfl
   have q2 : w2.cell? ⟨b, 2, none⟩ = some (.int .i64 n) := (blk_cell BK2.out 2).trans rfl
   obtain ⟨y1, -⟩ := Kd.R_celln (enc := Value.int .i32) (h1 := fun _ => rfl) 0 HR2.out (m : Int) (by omega) (by have := HN.out; have := HLEN.out; omega)
   obtain ⟨y2, y3⟩ := Kd.R_celln (enc := Value.int .i32) (h1 := fun _ => rfl) 0 HR2.out (n : Int) (by omega) (by have := HN.out; have := HLEN.out; omega)
   simp only [Int.toNat_natCast] at y1 y2 y3
   have bm : (m : Int) < (xs.length : Int) := by have := HN.out; have := HLEN.out; omega
   have bn : (n : Int) < (xs.length : Int) := by have := HN.out; have := HLEN.out; omega
   go_still_tail 19, (by kernel_rfl)
   change wpList _ _ _ _ _ w2.drew
   have HB3 : Aside0 (UpdS S w w2.drew) := ⟨HB2.out.drew⟩
   have BK3 : Aside0 (w2.drew.heap[b]? = some (.cells #[.slice (some ⟨r, 0, none⟩) xs.length cp, .int .i64 m, .int .i64 n] 94 (0, 0))) := ⟨BK2.out⟩
   have HR3 : Aside0 (Kd.R (Kd.int .i32) 21 w2.drew base (fun k => k ≠ b) (.slice (some ⟨r, 0, none⟩) xs.length cp) xs) := ⟨Kd.R_drew HR2.out⟩
   replace y2 : w2.drew.cell? ⟨r, n, none⟩ = some (.int .i32 (rdOf 0 xs (n : Int))) := y2
   replace y3 : w2.drew.frozen? ⟨r, n, none⟩ = false := y3
   generalize w2.drew = w3 at HB3 BK3 HR3 y2 y3 ⊢
   clear q0 q1 q2 y1 HB2 BK2 HR2
   have EX : Aside0 (rdOf 0 xs (m : Int) = xs.getD m 0) := ⟨by unfold rdOf; simp⟩
   rw [EX.out]
   have HX0 : Aside0 (∃ x, x = xs.getD m 0) := ⟨⟨_, rfl⟩⟩
   obtain ⟨x, hx⟩ := HX0.out
   rw [← hx]
   have HXX := Aside0.mk hx
   clear hx EX HX0
   by_cases cg : g = 0
   ·have hnm : n = m := by have := HN.out; omega
    have d1 : ((n : Int) != (m : Int)) = false := by rw [hnm]; exact bne_self_eq_false _
    have d2 : ((n : Int) == (m : Int)) = true := by rw [hnm]; exact beq_self_eq_true _
    have HNM := Aside0.mk hnm
    clear hnm
    go_wp2
    obtain ⟨w4, e4⟩ : ∃ y, w3.setCell ⟨r, n, none⟩ (.int .i32 x) = y := ⟨_, rfl⟩
    have HP := Kd.R_putg HR3.out (n : Int) x
    simp only [Int.toNat_natCast] at HP
    have HB4 : Aside0 (UpdS S w w4) := ⟨by subst e4; exact HB3.out.setCell (p := ⟨r, n, none⟩) hrS _⟩
    have BK4 : Aside0 (w4.heap[b]? = some (.cells #[.slice (some ⟨r, 0, none⟩) xs.length cp, .int .i64 m, .int .i64 n] 94 (0, 0))) := ⟨by subst e4; exact blk_grown BK3.out HP.2 (fun e => hrne (Option.some.inj e).symm)⟩
    have HR4 : Aside0 (Kd.R (Kd.int .i32) 21 w4 base (fun k => k ≠ b) (.slice (some ⟨r, 0, none⟩) xs.length cp) (xs.set n x)) := ⟨by subst e4; exact HP.1⟩
    rw [e4]
    clear e4 y2 y3 HP
    have q1 : w4.cell? ⟨b, 1, none⟩ = some (.int .i64 m) := (blk_cell BK4.out 1).trans rfl
    have q2 : w4.cell? ⟨b, 2, none⟩ = some (.int .i64 n) := (blk_cell BK4.out 2).trans rfl
    go_quiet (fail)
    go_wp2
    go_roundg (m - a)
    case measure => have := HK.out; omega
    case rel =>
     have h1 := lay_left T (m + 1) g (by omega) g2
     rw [if_pos cg, ← HXS.out, show m + 1 - 1 + g = n from by have := HN.out; omega, show m + 1 - 1 = m from rfl, ← HXX.out] at h1
     have hF : GapF w4 base b T m g S := ⟨hbb, by omega, g3, .slice (some ⟨r, 0, none⟩) xs.length cp, by have := HN.out; subst this; exact BK4.out, by rw [← h1]; exact HR4.out, hS2.out⟩
     exact ⟨⟨m, by have := HK.out; omega, hF.below (below_drewN _)⟩, HB4.out.drewN _⟩
   ·have d0 : (n : Int) ≠ (m : Int) := by have := HN.out; omega
    have d1 : ((n : Int) != (m : Int)) = true := bne_iff_ne.mpr d0
    have d2 : ((n : Int) == (m : Int)) = false := beq_eq_false_iff_ne.mpr d0
    go_wp2
    obtain ⟨w4, e4⟩ : ∃ y, w3.setCell ⟨r, n, none⟩ (.int .i32 x) = y := ⟨_, rfl⟩
    have HP := Kd.R_putg HR3.out (n : Int) x
    simp only [Int.toNat_natCast] at HP
    have HB4 : Aside0 (UpdS S w w4) := ⟨by subst e4; exact HB3.out.setCell (p := ⟨r, n, none⟩) hrS _⟩
    have BK4 : Aside0 (w4.heap[b]? = some (.cells #[.slice (some ⟨r, 0, none⟩) xs.length cp, .int .i64 m, .int .i64 n] 94 (0, 0))) := ⟨by subst e4; exact blk_grown BK3.out HP.2 (fun e => hrne (Option.some.inj e).symm)⟩
    have HR4 : Aside0 (Kd.R (Kd.int .i32) 21 w4 base (fun k => k ≠ b) (.slice (some ⟨r, 0, none⟩) xs.length cp) (xs.set n x)) := ⟨by subst e4; exact HP.1⟩
    rw [e4]
    clear e4 y2 y3 HP
    have q1 : w4.cell? ⟨b, 1, none⟩ = some (.int .i64 m) := (blk_cell BK4.out 1).trans rfl
    have q2 : w4.cell? ⟨b, 2, none⟩ = some (.int .i64 n) := (blk_cell BK4.out 2).trans rfl
    go_quiet (fail)
    go_wp2
    have HB5 : Aside0 (UpdS S w (w4.drewN nq)) := ⟨HB4.out.drewN _⟩
    have BK5 : Aside0 ((w4.drewN nq).heap[b]? = some (.cells #[.slice (some ⟨r, 0, none⟩) xs.length cp, .int .i64 m, .int .i64 n] 94 (0, 0))) := ⟨BK4.out⟩
    have HR5 : Aside0 (Kd.R (Kd.int .i32) 21 (w4.drewN nq) base (fun k => k ≠ b) (.slice (some ⟨r, 0, none⟩) xs.length cp) (xs.set n x)) := ⟨Kd.R_drewN HR4.out _⟩
    generalize w4.drewN nq = w5 at HB5 BK5 HR5 ⊢
    clear q1 q2 HB4 BK4 HR4
    have q0 : w5.cell? ⟨b, 0, none⟩ = some (.slice (some ⟨r, 0, none⟩) xs.length cp) := (blk_cell BK5.out 0).trans rfl
    have q1 : w5.cell? ⟨b, 1, none⟩ = some (.int .i64 m) := (blk_cell BK5.out 1).trans rfl
    have hlx : (xs.set n x).length = xs.length := List.length_set
    obtain ⟨y2, y3⟩ := Kd.R_celln (enc := Value.int .i32) (h1 := fun _ => rfl) 0 HR5.out (m : Int) (by omega) (by omega)
    simp only [Int.toNat_natCast] at y2 y3
    have Y2 := Aside0.mk y2
    clear y2 hlx
    go_still_tail 10, (by kernel_rfl)
    change wpList _ _ _ _ _ w5.drew
    have HB6 : Aside0 (UpdS S w w5.drew) := ⟨HB5.out.drew⟩
    have BK6 : Aside0 (w5.drew.heap[b]? = some (.cells #[.slice (some ⟨r, 0, none⟩) xs.length cp, .int .i64 m, .int .i64 n] 94 (0, 0))) := ⟨BK5.out⟩
    have HR6 : Aside0 (Kd.R (Kd.int .i32) 21 w5.drew base (fun k => k ≠ b) (.slice (some ⟨r, 0, none⟩) xs.length cp) (xs.set n x)) := ⟨Kd.R_drew HR5.out⟩
    have y2 : w5.drew.cell? ⟨r, m, none⟩ = some (.int .i32 (rdOf 0 (xs.set n x) (m : Int))) := Y2.out
    replace y3 : w5.drew.frozen? ⟨r, m, none⟩ = false := y3
    generalize w5.drew = w6 at HB6 BK6 HR6 y2 y3 ⊢
    clear q0 q1 Y2 HB5 BK5 HR5
    go_wp2
    go_roundg (m - a)
    case measure => have := HK.out; omega
    case rel =>
     have HP := Kd.R_putg (enc := Value.int .i32) (h1 := fun _ => rfl) HR6.out (m : Int) 0
     simp only [Int.toNat_natCast] at HP
     have h1 := lay_left T (m + 1) g (by omega) g2
     rw [if_neg cg, ← HXS.out, show m + 1 - 1 + g = n from by have := HN.out; omega, show m + 1 - 1 = m from rfl, ← HXX.out] at h1
     have hb7 := blk_grown BK6.out HP.2 (fun e => hrne (Option.some.inj e).symm)
     have hF : GapF (w6.setCell ⟨r, m, none⟩ (.int .i32 0)) base b T m g S := ⟨hbb, by omega, g3, .slice (some ⟨r, 0, none⟩) xs.length cp, by have := HN.out; subst this; exact hb7, by rw [← h1]; exact HP.1, hS2.out⟩
     exact ⟨⟨m, by have := HK.out; omega, hF⟩, HB6.out.setCell (p := ⟨r, m, none⟩) hrS _⟩
  ·have hla : l' ≤ a := by omega
   have HG := Aside0.mk (show GapF wr base b T l' g S from ⟨g1, g2, g3, v, hblk, hR, hS⟩)
   have q1 : wr.cell? ⟨b, 1, none⟩ = some (.int .i64 l') := (blk_cell hblk 1).trans rfl
   have AT2 : Aside0 (MoveR w base b T g a S (a - l') undef wr) := ⟨⟨⟨l', by omega, HG.out⟩, hB⟩⟩
   have AT3 : ∀ v, Aside0 (MoveR w base b T g a S (a - l') v wr) := fun v => ⟨⟨AT2.out.st, AT2.out.bel⟩⟩
   clear hblk hR hB g1 g2 g3 hk AT2 hS
   go_wp2
   clear q1
   go_loopg [63] (a - l') (fun k v63 wr => MoveR w base b T g a S k v63 wr)
   case atStart => exact (AT3 _).out
   case round =>
    clear AT3 HG hla cl
    obtain ⟨⟨m, hk, hG⟩, hB⟩ := hrel
    obtain ⟨g1, g2, g3, v, hblk, hR, hS⟩ := hG
    by_cases cl : m < a
    ·have hlen := lay_length T m g g2
     obtain ⟨r, cp, rfl, hrb, hrl, cl_, hrc⟩ := Kd.R_form hR (by omega)
     have hrne : r ≠ b := hR.1 r rfl
     have hS2 : Aside0 (S = [b, r]) := ⟨hS⟩
     have hbS : b ∈ S ∨ w.heap.size ≤ b := .inl (by rw [hS2.out]; simp)
     have hrS : r ∈ S ∨ w.heap.size ≤ r := .inl (by rw [hS2.out]; simp)
     clear hS
     have BK := Aside0.mk hblk
     have HR := Aside0.mk hR
     have HK := Aside0.mk hk
     have HB := Aside0.mk hB
     obtain ⟨n, HN⟩ : ∃ n, Aside0 (n = m + g) := ⟨_, ⟨rfl⟩⟩
     clear hblk hR hk hB hrc cl_
     have EX : Aside0 (∃ ys, ys = lay T m g) := ⟨⟨_, rfl⟩⟩
     obtain ⟨xs, hxs⟩ := EX.out
     rw [← hxs, ← HN.out] at BK
     rw [← hxs] at hlen HR
     have q0 : wr.cell? ⟨b, 0, none⟩ = some (.slice (some ⟨r, 0, none⟩) xs.length cp) := (blk_cell BK.out 0).trans rfl
     have q1 : wr.cell? ⟨b, 1, none⟩ = some (.int .i64 m) := (blk_cell BK.out 1).trans rfl
     have q2 : wr.cell? ⟨b, 2, none⟩ = some (.int .i64 n) := (blk_cell BK.out 2).trans rfl
     have f1 := blk_frozen BK.out 1
     have f2 := blk_frozen BK.out 2
     have HXS := Aside0.mk hxs
     have HLEN := Aside0.mk hlen
     have bT : T.length + g < 2000000 := by omega
     clear hlen hxs EX
     have b4 : n < 2000000 := by have := HN.out; omega
     have hbb : base ≤ b := g1
     obtain ⟨y1, y1f⟩ := Kd.R_celln (enc := Value.int .i32) (h1 := fun _ => rfl) 0 HR.out (m : Int) (by omega) (by have := HN.out; have := HLEN.out; omega)
     obtain ⟨y2, y3⟩ := Kd.R_celln (enc := Value.int .i32) (h1 := fun _ => rfl) 0 HR.out (n : Int) (by omega) (by have := HN.out; have := HLEN.out; omega)
     simp only [Int.toNat_natCast] at y1 y1f y2 y3
     have bm : (m : Int) < (xs.length : Int) := by have := HN.out; have := HLEN.out; omega
     have bn : (n : Int) < (xs.length : Int) := by have := HN.out; have := HLEN.out; omega
     go_wp2
     go_still_tail 19, (by kernel_rfl)
     change wpList _ _ _ _ _ wr.drew
     have HB3 : Aside0 (UpdS S w wr.drew) := ⟨HB.out.drew⟩
     have BK3 : Aside0 (wr.drew.heap[b]? = some (.cells #[.slice (some ⟨r, 0, none⟩) xs.length cp, .int .i64 m, .int .i64 n] 94 (0, 0))) := ⟨BK.out⟩
     have HR3 : Aside0 (Kd.R (Kd.int .i32) 21 wr.drew base (fun k => k ≠ b) (.slice (some ⟨r, 0, none⟩) xs.length cp) xs) := ⟨Kd.R_drew HR.out⟩
     have z2 : wr.drew.cell? ⟨r, m, none⟩ = some (.int .i32 (rdOf 0 xs (m : Int))) := y1
     have z3 : wr.drew.frozen? ⟨r, m, none⟩ = false := y1f
     clear q0 q1 q2 f1 f2 y1 y1f y2 y3
     generalize wr.drew = w3 at HB3 BK3 HR3 z2 z3 ⊢
     have EX : Aside0 (rdOf 0 xs (n : Int) = xs.getD n 0) := ⟨by unfold rdOf; simp⟩
     rw [EX.out]
     have HX0 : Aside0 (∃ x, x = xs.getD n 0) := ⟨⟨_, rfl⟩⟩
     obtain ⟨x, hx⟩ := HX0.out
     rw [← hx]
     have HXX := Aside0.mk hx
     clear hx EX HX0
     by_cases cg : g = 0
     ·have hnm : n = m := by have := HN.out; omega
      have d1 : ((n : Int) != (m : Int)) = false := by rw [hnm]; exact bne_self_eq_false _
      have d2 : ((n : Int) == (m : Int)) = true := by rw [hnm]; exact beq_self_eq_true _
      clear hnm
      go_wp2
      obtain ⟨w4, e4⟩ : ∃ y, w3.setCell ⟨r, m, none⟩ (.int .i32 x) = y := ⟨_, rfl⟩
      have HP := Kd.R_putg HR3.out (m : Int) x
      simp only [Int.toNat_natCast] at HP
      have HB4 : Aside0 (UpdS S w w4) := ⟨by subst e4; exact HB3.out.setCell (p := ⟨r, m, none⟩) hrS _⟩
      have BK4 : Aside0 (w4.heap[b]? = some (.cells #[.slice (some ⟨r, 0, none⟩) xs.length cp, .int .i64 m, .int .i64 n] 94 (0, 0))) := ⟨by subst e4; exact blk_grown BK3.out HP.2 (fun e => hrne (Option.some.inj e).symm)⟩
      have HR4 : Aside0 (Kd.R (Kd.int .i32) 21 w4 base (fun k => k ≠ b) (.slice (some ⟨r, 0, none⟩) xs.length cp) (xs.set m x)) := ⟨by subst e4; exact HP.1⟩
      rw [e4]
      clear e4 z2 z3 HP HB3 BK3 HR3
      have q1 : w4.cell? ⟨b, 1, none⟩ = some (.int .i64 m) := (blk_cell BK4.out 1).trans rfl
      have q2 : w4.cell? ⟨b, 2, none⟩ = some (.int .i64 n) := (blk_cell BK4.out 2).trans rfl
      go_quiet (fail)
      have HB5 : Aside0 (UpdS S w (w4.drewN nq)) := ⟨HB4.out.drewN _⟩
      have BK5 : Aside0 ((w4.drewN nq).heap[b]? = some (.cells #[.slice (some ⟨r, 0, none⟩) xs.length cp, .int .i64 m, .int .i64 n] 94 (0, 0))) := ⟨BK4.out⟩
      have HR5 : Aside0 (Kd.R (Kd.int .i32) 21 (w4.drewN nq) base (fun k => k ≠ b) (.slice (some ⟨r, 0, none⟩) xs.length cp) (xs.set m x)) := ⟨Kd.R_drewN HR4.out _⟩
      generalize w4.drewN nq = w5 at HB5 BK5 HR5 ⊢
      clear q1 q2 HB4 BK4 HR4
      have q1 : w5.cell? ⟨b, 1, none⟩ = some (.int .i64 m) := (blk_cell BK5.out 1).trans rfl
      have q2 : w5.cell? ⟨b, 2, none⟩ = some (.int .i64 n) := (blk_cell BK5.out 2).trans rfl
      have f1 := blk_frozen BK5.out 1
      have f2 := blk_frozen BK5.out 2
      go_wp2
      go_roundg (a - (m + 1))
      case measure => have := HK.out; omega
      case rel =>
       have h1 := lay_right T m g (by omega)
       rw [if_pos cg, ← HXS.out, ← HN.out, ← HXX.out] at h1
       have hb8 := blk_put (blk_put BK5.out 1 (.int .i64 ((m : Int) + 1)) rfl) 2 (.int .i64 ((n : Int) + 1)) rfl
       have hr8 := Kd.R_far (p := ⟨b, 2, none⟩) (Kd.R_far (p := ⟨b, 1, none⟩) HR5.out (fun _ h => h) (.int .i64 ((m : Int) + 1))) (fun _ h => h) (.int .i64 ((n : Int) + 1))
       have hF : GapF ((w5.setCell ⟨b, 1, none⟩ (.int .i64 ((m : Int) + 1))).setCell ⟨b, 2, none⟩ (.int .i64 ((n : Int) + 1))) base b T (m + 1) g S := ⟨hbb, by omega, g3, .slice (some ⟨r, 0, none⟩) xs.length cp, by
        have e : ((m + 1 + g : Nat) : Int) = (n : Int) + 1 := by have := HN.out; omega
        rw [e]; exact hb8, by rw [← h1]; exact hr8, hS2.out⟩
       exact ⟨⟨m + 1, by have := HK.out; omega, hF⟩, (HB5.out.setCell (p := ⟨b, 1, none⟩) hbS _).setCell (p := ⟨b, 2, none⟩) hbS _⟩
     ·have d0 : (n : Int) ≠ (m : Int) := by have := HN.out; omega
      have d1 : ((n : Int) != (m : Int)) = true := bne_iff_ne.mpr d0
      have d2 : ((n : Int) == (m : Int)) = false := beq_eq_false_iff_ne.mpr d0
      go_wp2
      obtain ⟨w4, e4⟩ : ∃ y, w3.setCell ⟨r, m, none⟩ (.int .i32 x) = y := ⟨_, rfl⟩
      have HP := Kd.R_putg HR3.out (m : Int) x
      simp only [Int.toNat_natCast] at HP
      have HB4 : Aside0 (UpdS S w w4) := ⟨by subst e4; exact HB3.out.setCell (p := ⟨r, m, none⟩) hrS _⟩
      have BK4 : Aside0 (w4.heap[b]? = some (.cells #[.slice (some ⟨r, 0, none⟩) xs.length cp, .int .i64 m, .int .i64 n] 94 (0, 0))) := ⟨by subst e4; exact blk_grown BK3.out HP.2 (fun e => hrne (Option.some.inj e).symm)⟩
      have HR4 : Aside0 (Kd.R (Kd.int .i32) 21 w4 base (fun k => k ≠ b) (.slice (some ⟨r, 0, none⟩) xs.length cp) (xs.set m x)) := ⟨by subst e4; exact HP.1⟩
      rw [e4]
      clear e4 z2 z3 HP HB3 BK3 HR3
      have q1 : w4.cell? ⟨b, 1, none⟩ = some (.int .i64 m) := (blk_cell BK4.out 1).trans rfl
      have q2 : w4.cell? ⟨b, 2, none⟩ = some (.int .i64 n) := (blk_cell BK4.out 2).trans rfl
      go_quiet (fail)
      go_wp2
      have HB5 : Aside0 (UpdS S w (w4.drewN nq)) := ⟨HB4.out.drewN _⟩
      have BK5 : Aside0 ((w4.drewN nq).heap[b]? = some (.cells #[.slice (some ⟨r, 0, none⟩) xs.length cp, .int .i64 m, .int .i64 n] 94 (0, 0))) := ⟨BK4.out⟩
      have HR5 : Aside0 (Kd.R (Kd.int .i32) 21 (w4.drewN nq) base (fun k => k ≠ b) (.slice (some ⟨r, 0, none⟩) xs.length cp) (xs.set m x)) := ⟨Kd.R_drewN HR4.out _⟩
      generalize w4.drewN nq = w5 at HB5 BK5 HR5 ⊢
      clear q1 q2 HB4 BK4 HR4
      have q0 : w5.cell? ⟨b, 0, none⟩ = some (.slice (some ⟨r, 0, none⟩) xs.length cp) := (blk_cell BK5.out 0).trans rfl
      have q2 : w5.cell? ⟨b, 2, none⟩ = some (.int .i64 n) := (blk_cell BK5.out 2).trans rfl
      have hlx : (xs.set m x).length = xs.length := List.length_set
      obtain ⟨y2, y3⟩ := Kd.R_celln (enc := Value.int .i32) (h1 := fun _ => rfl) 0 HR5.out (n : Int) (by omega) (by omega)
      simp only [Int.toNat_natCast] at y2 y3
      have Y2 := Aside0.mk y2
      clear y2 hlx
      go_still_tail 10, (by kernel_rfl)
      change wpList _ _ _ _ _ w5.drew
      have HB6 : Aside0 (UpdS S w w5.drew) := ⟨HB5.out.drew⟩
      have BK6 : Aside0 (w5.drew.heap[b]? = some (.cells #[.slice (some ⟨r, 0, none⟩) xs.length cp, .int .i64 m, .int .i64 n] 94 (0, 0))) := ⟨BK5.out⟩
      have HR6 : Aside0 (Kd.R (Kd.int .i32) 21 w5.drew base (fun k => k ≠ b) (.slice (some ⟨r, 0, none⟩) xs.length cp) (xs.set m x)) := ⟨Kd.R_drew HR5.out⟩
      have y2 : w5.drew.cell? ⟨r, n, none⟩ = some (.int .i32 (rdOf 0 (xs.set m x) (n : Int))) := Y2.out
      replace y3 : w5.drew.frozen? ⟨r, n, none⟩ = false := y3
      generalize w5.drew = w6 at HB6 BK6 HR6 y2 y3 ⊢
      clear q0 q2 Y2 HB5 BK5 HR5
      go_wp2_with ((with_reducible refine gate_store (t := 21) (p := 106) rfl ?_); refine store_event (t := 21) (p := 106) (v := ?vo_w7) (w1 := (w6.setCell ⟨r, n, none⟩ (.int .i32 0))) ?hg ?ho ?hn ?hr ?_; (case ho => rfl); (case hg => rfl); (case hn => rfl); (case hr => first | (go_simp; done) | (go_simp; rfl)); intro w7 hw; have HP := Kd.R_putg (enc := Value.int .i32) (h1 := fun _ => rfl) HR6.out (n : Int) 0; simp only [Int.toNat_natCast] at HP; rw [← hw] at HP; have HB7 : Aside0 (UpdS S w w7) := ⟨by rw [hw]; exact HB6.out.setCell (p := ⟨r, n, none⟩) hrS _⟩; have BK7 := Aside0.mk (blk_grown BK6.out HP.2 (fun e => hrne (Option.some.inj e).symm)); have HR7 := Aside0.mk HP.1; clear hw HP y2 y3; have q1 : w7.cell? ⟨b, 1, none⟩ = some (.int .i64 m) := (blk_cell BK7.out 1).trans rfl; have q2 : w7.cell? ⟨b, 2, none⟩ = some (.int .i64 n) := (blk_cell BK7.out 2).trans rfl; have f1 := blk_frozen BK7.out 1; have f2 := blk_frozen BK7.out 2)
      go_roundg (a - (m + 1))
      case measure => have := HK.out; omega
      case rel =>
       have h1 := lay_right T m g (by omega)
       rw [if_neg cg, ← HXS.out, ← HN.out, ← HXX.out] at h1
       have hb8 := blk_put (blk_put BK7.out 1 (.int .i64 ((m : Int) + 1)) rfl) 2 (.int .i64 ((n : Int) + 1)) rfl
       have hr8 := Kd.R_far (p := ⟨b, 2, none⟩) (Kd.R_far (p := ⟨b, 1, none⟩) HR7.out (fun _ h => h) (.int .i64 ((m : Int) + 1))) (fun _ h => h) (.int .i64 ((n : Int) + 1))
       have hF : GapF ((w7.setCell ⟨b, 1, none⟩ (.int .i64 ((m : Int) + 1))).setCell ⟨b, 2, none⟩ (.int .i64 ((n : Int) + 1))) base b T (m + 1) g S := ⟨hbb, by omega, g3, .slice (some ⟨r, 0, none⟩) xs.length cp, by
        have e : ((m + 1 + g : Nat) : Int) = (n : Int) + 1 := by have := HN.out; omega
        rw [e]; exact hb8, by rw [← h1]; exact hr8, hS2.out⟩
       exact ⟨⟨m + 1, by have := HK.out; omega, hF⟩, (HB7.out.setCell (p := ⟨b, 1, none⟩) hbS _).setCell (p := ⟨b, 2, none⟩) hbS _⟩
    ·have hma : m = a := by omega
     have HG := Aside0.mk (show GapF wr base b T m g S from ⟨g1, g2, g3, v, hblk, hR, hS⟩)
     have HB := Aside0.mk hB
     have q1 : wr.cell? ⟨b, 1, none⟩ = some (.int .i64 m) := (blk_cell hblk 1).trans rfl
     have HMA := Aside0.mk hma
     clear hblk hR hB hk hma hS
     go_wp2
     go_end0
     exact ⟨rfl, by rw [← HMA.out]; exact HG.out, HB.out⟩
end Go.Proofs.YtamcacahjlaogaaDoor.F
