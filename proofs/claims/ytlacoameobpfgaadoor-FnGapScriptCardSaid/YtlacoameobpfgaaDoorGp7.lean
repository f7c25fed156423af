/- GapDelete, walked. Conditions: at most 1048576 cells; errors.errorType reads as laid. -/
import Derived.Test.YtlacoameobpfgaaDoorGp6
namespace Go.Proofs.YtlacoameobpfgaaDoor
open Go.RowKit Go.Proofs.YtlacoameobpfgaaDoorW.PrintWords Go.Proofs.YtlacoameobpfgaaDoorW.PrintLast Go.Proofs.YtlacoameobpfgaaDoorW.PrintMore Er
/-- what a call hands back: a gap buffer and a code -/
def GapPost (w : World) (r : List Int × Int × Int × Int) (e : Ending) (w' : World) : Prop := ∃ v0_ : Value, e = .returned (.tuple #[.agg #[v0_, .int .i64 r.2.1, .int .i64 r.2.2.1], .int .i64 r.2.2.2]) ∧ Kd.R (Kd.int .i32) 21 w' w.heap.size (fun _ => True) v0_ r.1 ∧ Below w.heap.size w w'
theorem GapPost.none {w w' : World} (c : Int) (hb : Below w.heap.size w w') : GapPost w ([], 0, 0, c) (.returned (.tuple #[.agg #[.slice none 0 0, .int .i64 0, .int .i64 0], .int .i64 c])) w' :=
  ⟨_, rfl, Kd.R_nil _ _ _ _ _, hb⟩
abbrev gapObj (u v x : Value) : Obj := .cells #[u, v, x] 28
theorem box_at {w0 : World} {b : Nat} {u v x : Value} (h : w0.heap[b]? = some (.cells #[u, v, x] 28 (0, 0))) : w0.cell? ⟨b, 0, none⟩ = some u ∧ w0.cell? ⟨b, 1, none⟩ = some v ∧ w0.cell? ⟨b, 2, none⟩ = some x :=
  ⟨(blk_cell h 0).trans rfl, (blk_cell h 1).trans rfl, (blk_cell h 2).trans rfl⟩
abbrev set3 (w : World) (X : Nat) (u v x : Value) : World := ((w.setCell ⟨X, 0, none⟩ u).setCell ⟨X, 1, none⟩ v).setCell ⟨X, 2, none⟩ x
theorem box_put {w : World} {X : Nat} {a b c : Value} (h : w.heap[X]? = some (.cells #[a, b, c] 28 (0, 0))) (u v x : Value) : (set3 w X u v x).heap[X]? = some (.cells #[u, v, x] 28 (0, 0)) :=
  blk_put (blk_put (blk_put h 0 u rfl) 1 v rfl) 2 x rfl
theorem below_put {w0 w : World} {base X : Nat} (h : Below base w0 w) (hX : base ≤ X) (u v x : Value) : Below base w0 (set3 w X u v x) :=
  ((h.setCell (p := ⟨X, 0, none⟩) hX u).setCell (p := ⟨X, 1, none⟩) hX v).setCell (p := ⟨X, 2, none⟩) hX x
theorem R_put3 {w : World} {X n base : Nat} {v : Value} {ys : List Int} (h : Kd.R (Kd.int .i32) 21 w n (fun _ => True) v ys) (hX : X < n) (hb : base ≤ n) (u u2 u3 : Value) :
    Kd.R (Kd.int .i32) 21 (set3 w X u u2 u3) base (fun _ => True) v ys := by
  have h1 := Kd.R_mono (ok' := fun k => k ≠ X) (Kd.R_bound h) (fun k hk => by have := hk.2.1; omega)
  exact Kd.R_lower (Kd.R_mono (Kd.R_far (p := ⟨X, 2, none⟩) (Kd.R_far (p := ⟨X, 1, none⟩) (Kd.R_far (p := ⟨X, 0, none⟩) h1 (fun _ h => h) u) (fun _ h => h) u2) (fun _ h => h) u3) (fun _ _ => trivial)) hb
/-- what GapDelete answers -/
def gapDeleteV (xs : List Int) (glo ghi lo hi : Int) : List Int × Int × Int × Int :=
  if okGap xs glo ghi then (if 0 ≤ lo ∧ lo ≤ hi ∧ hi ≤ ((txt xs glo ghi).length : Int) then
    (lay (without (txt xs glo ghi) lo.toNat (hi.toNat - lo.toNat)) lo.toNat ((ghi - glo).toNat + (hi.toNat - lo.toNat)), (lo.toNat : Int), ((lo.toNat + ((ghi - glo).toNat + (hi.toNat - lo.toNat)) : Nat) : Int), 0) else ([], 0, 0, 2)) else ([], 0, 0, 1)
set_option maxHeartbeats 4000000 in
set_option maxRecDepth 100000 in
theorem gapDelete_any (w : World) (xs : List Int) (A : Option Addr) (c : Nat) (glo ghi lo hi : Int) (hm : xs.length ≤ 1048576) (hr : (Kd.int .i32).C w A xs.length xs) (hc : xs.length ≤ c) (hg : HG w) :
    Calls Tryd.prog 20 #[.agg #[.slice A xs.length c, .int .i64 glo, .int .i64 ghi], .int .i64 lo, .int .i64 hi] w (GapPost w (gapDeleteV xs glo ghi lo hi)) := by
  obtain ⟨w0, e0⟩ : ∃ y, w.alloc (.cells #[.slice A xs.length c, .int .i64 glo, .int .i64 ghi] 28) = y := ⟨_, rfl⟩
  have HB0 : Aside0 (Below w.heap.size w w0) := ⟨by subst e0; exact (Below.refl _ w).alloc (Nat.le_refl _) _⟩
  have HX0 : Aside0 (w0.heap[w.heap.size]? = some (.cells #[.slice A xs.length c, .int .i64 glo, .int .i64 ghi] 28 (0, 0))) := ⟨by subst e0; exact blk_new w (.cells #[.slice A xs.length c, .int .i64 glo, .int .i64 ghi] 28)⟩
  have z0 : w0.heap.size = w.heap.size + 1 := by subst e0; simp
  obtain ⟨w1, e1⟩ : ∃ y, w0.alloc (.cells #[.slice none 0 0, .int .i64 0, .int .i64 0] 28) = y := ⟨_, rfl⟩
  have hb1 : Below w0.heap.size w0 w1 := by subst e1; exact (Below.refl _ w0).alloc (Nat.le_refl _) _
  have HB1 : Aside0 (Below w.heap.size w w1) := ⟨below_step HB0.out hb1⟩
  have HX1 : Aside0 (w1.heap[w.heap.size]? = some (.cells #[.slice A xs.length c, .int .i64 glo, .int .i64 ghi] 28 (0, 0))) := ⟨blk_below HX0.out hb1⟩
  have HY1 : Aside0 (w1.heap[w.heap.size + 1]? = some (.cells #[.slice none 0 0, .int .i64 0, .int .i64 0] 28 (0, 0))) := ⟨by rw [← z0]; subst e1; exact blk_new w0 (.cells #[.slice none 0 0, .int .i64 0, .int .i64 0] 28)⟩
  have hlt1 : Aside0 (w.heap.size + 1 < w1.heap.size) := ⟨blk_lt HY1.out⟩
  obtain ⟨q0, q1, q2⟩ := box_at HX1.out
  have HR := Aside0.mk (Kd.C_below hr HB1.out)
  have HG0 := Aside0.mk hg
  clear hr hg hb1
  go_enter Tryd.func20, Tryd.ntmps20
  go_wp2_with fail
  refine (opened_any w1 xs A c glo ghi HR.out hc hm).mono ?_
  intro e w2 hp
  obtain ⟨hb2, hp⟩ := hp
  have HB2 := Aside0.mk (below_step HB1.out hb2)
  have HY2 := Aside0.mk (blk_below HY1.out hb2)
  clear hb2 q0 q1 q2 e0 e1 z0
  rcases hp with ⟨ok, b, rfl, hgi⟩ | ⟨nok, b, v, rfl, hgi, hE⟩
  · have OK := Aside0.mk ok
    have GI := Aside0.mk hgi
    have hTl : (xs.take glo.toNat ++ xs.drop ghi.toNat).length ≤ 8192 := (okGap_lay ok).2.2.1
    have HTL := Aside0.mk hTl
    clear ok hgi hTl
    obtain ⟨T, HT⟩ : ∃ T, Aside0 (T = xs.take glo.toNat ++ xs.drop ghi.toNat) := ⟨_, ⟨rfl⟩⟩
    rw [← HT.out] at GI HTL
    simp only [gpt]
    go_wp2_with fail
    refine (gsize_any w2 _ b _ _ _ GI.out).mono ?_
    rintro e w3 ⟨rfl, hb3⟩
    have HB3 := Aside0.mk (below_step HB2.out hb3)
    have HY3 := Aside0.mk (blk_below HY2.out hb3)
    have GI3 := Aside0.mk (GI.out.below hb3)
    clear hb3
    go_wp2_with fail
    by_cases cin : 0 ≤ lo ∧ lo ≤ hi ∧ hi ≤ (T.length : Int)
    · have hro := rangeOf_any w3 lo hi (T.length : Nat)
      rw [if_pos cin] at hro
      refine hro.mono ?_
      clear hro
      rintro e w' ⟨rfl, hw⟩
      rw [hw]
      clear hw w'
      simp only [ev]
      go_wp2_with fail
      refine (firstOf2 _ w3.heap.size none none (by simp [ev]) (by simp [ev])).mono ?_
      rintro e w' ⟨rfl, hw⟩
      rw [hw]
      clear hw w'
      simp only [ev, firstE]
      obtain ⟨w4, e4⟩ : ∃ y, w3.alloc (.cells #[.nilIface, .nilIface] 71) = y := ⟨_, rfl⟩
      have hb4 : Below w3.heap.size w3 w4 := by subst e4; exact (Below.refl _ w3).alloc (Nat.le_refl _) _
      have HB4 := Aside0.mk (below_step HB3.out hb4)
      have HY4 := Aside0.mk (blk_below HY3.out hb4)
      have GI4 := Aside0.mk (GI3.out.below hb4)
      rw [e4]
      clear e4 hb4
      obtain ⟨lo', rfl⟩ : ∃ n : Nat, lo = n := ⟨lo.toNat, by omega⟩
      obtain ⟨hi', rfl⟩ : ∃ n : Nat, hi = n := ⟨hi.toNat, by omega⟩
      go_wp2_with fail
      refine (remove_any w4 _ b _ _ _ lo' hi' GI4.out (by omega) (by omega)).mono ?_
      rintro e w5 ⟨rfl, hG5, hb5⟩
      have HB5 : Aside0 (Below w.heap.size w w5) := ⟨HB4.out.trans (hb5.mono HB1.out.size)⟩
      have HY5 : Aside0 (w5.heap[w.heap.size + 1]? = _) := ⟨(hb5.block _ hlt1.out).trans HY4.out⟩
      clear hb5
      have HG5 := Aside0.mk hG5
      clear hG5
      go_wp2_with fail
      refine (closed_any w5 _ b _ _ _ HG5.out).mono ?_
      rintro e w6 ⟨v, he, hR6, hb6⟩
      obtain ⟨h2, HH2⟩ : ∃ n : Nat, Aside0 (n = lo' + ((ghi - glo).toNat + (hi' - lo'))) := ⟨_, ⟨rfl⟩⟩
      obtain ⟨ys, HYS⟩ : ∃ ys, Aside0 (ys = lay (without T lo' (hi' - lo')) lo' ((ghi - glo).toNat + (hi' - lo'))) := ⟨_, ⟨rfl⟩⟩
      rw [← HH2.out] at he
      rw [← HYS.out] at hR6
      subst he
      obtain ⟨A6, c6, rfl⟩ := Kd.R_slice hR6
      have HR6 := Aside0.mk hR6
      have HB6 := Aside0.mk (below_step HB5.out hb6)
      have HY6 := Aside0.mk (blk_below HY5.out hb6)
      obtain ⟨p0, p1, p2⟩ := box_at HY6.out
      have f0 := blk_frozen HY6.out 0
      have f1 := blk_frozen HY6.out 1
      have f2 := blk_frozen HY6.out 2
      have CIN := Aside0.mk cin
      have BX : Aside0 _ := ⟨box_put HY6.out (.slice A6 ys.length c6) (.int .i64 (lo' : Nat)) (.int .i64 (h2 : Nat))⟩
      have hle5 := Aside0.mk HB5.out.size
      have hlt5 := Aside0.mk (blk_lt HY5.out)
      clear cin hR6 hb6
      go_wp2
      refine bodyPost_ret (results_list (rs := [.cell 6 28, .tmp 7]) rfl (by simp) (.cell (w.heap.size + 1) 28 _ (0, 0) _ rfl BX.out Tryd.underlying28 rfl (by kernel_rfl) (.tmp .nil))) rfl ?_
      have e : gapDeleteV xs glo ghi lo' hi' = (ys, (lo' : Int), (h2 : Int), 0) := by
        unfold gapDeleteV txt; rw [if_pos OK.out, ← HT.out, if_pos CIN.out, HH2.out, HYS.out]; simp only [Int.toNat_natCast]
      rw [e]
      exact ⟨_, rfl, R_put3 HR6.out hlt5.out hle5.out _ _ _, below_put HB6.out (Nat.le_succ _) _ _ _⟩
    · have hro := rangeOf_any w3 lo hi (T.length : Nat)
      rw [if_neg cin] at hro
      refine hro.mono ?_
      clear hro
      have CIN := Aside0.mk cin
      clear cin
      rintro e w' ⟨rfl, hw⟩
      rw [hw]
      clear hw w'
      simp only [ev]
      go_wp2_with fail
      refine (firstOf2 _ w3.heap.size none (some (111, .int .i64 2)) (by simp [ev]) (by simp [ev])).mono ?_
      rintro e w' ⟨rfl, hw⟩
      rw [hw]
      clear hw w'
      simp only [ev, firstE]
      obtain ⟨w4, e4⟩ : ∃ y, w3.alloc (.cells #[.nilIface, .iface 111 (.int .i64 2)] 71) = y := ⟨_, rfl⟩
      have hb4 : Below w3.heap.size w3 w4 := by subst e4; exact (Below.refl _ w3).alloc (Nat.le_refl _) _
      have HB4 := Aside0.mk (below_step HB3.out hb4)
      have HY4 := Aside0.mk (blk_below HY3.out hb4)
      skip
      rw [e4]
      clear e4 hb4
      go_wp2_with fail
      refine (codeOf_any _ 2 w4 (HG0.out.below HB4.out) (.inl rfl)).mono ?_
      rintro e w5 ⟨rfl, hb5⟩
      have HB5 := Aside0.mk (below_step HB4.out hb5)
      have HY5 := Aside0.mk (blk_below HY4.out hb5)
      obtain ⟨p0, p1, p2⟩ := box_at HY5.out
      have f0 := blk_frozen HY5.out 0
      have f1 := blk_frozen HY5.out 1
      have f2 := blk_frozen HY5.out 2
      have BX : Aside0 _ := ⟨box_put HY5.out (.slice none 0 0) (.int .i64 0) (.int .i64 0)⟩
      clear hb5
      go_wp2
      refine bodyPost_ret (results_list (rs := [.cell 6 28, .tmp 7]) rfl (by simp) (.cell (w.heap.size + 1) 28 _ (0, 0) _ rfl BX.out Tryd.underlying28 rfl (by kernel_rfl) (.tmp .nil))) rfl ?_
      have e : gapDeleteV xs glo ghi lo hi = ([], 0, 0, 2) := by
        unfold gapDeleteV txt; rw [if_pos OK.out, ← HT.out, if_neg CIN.out]
      rw [e]
      exact GapPost.none _ (below_put HB5.out (Nat.le_succ _) _ _ _)
  · obtain ⟨T, x, rfl⟩ := errIs_ev hE
    have HE := Aside0.mk hE
    have NOK := Aside0.mk nok
    have GI := Aside0.mk hgi
    clear hE nok hgi
    simp only [ev, gpt]
    go_wp2_with fail
    refine (gsize_any w2 _ b _ _ _ GI.out).mono ?_
    rintro e w3 ⟨rfl, hb3⟩
    have HB3 := Aside0.mk (below_step HB2.out hb3)
    have HY3 := Aside0.mk (blk_below HY2.out hb3)
    have HE3 := Aside0.mk (HE.out.below hb3)
    clear hb3
    simp only [List.length_nil]
    go_wp2_with fail
    refine (rangeOf_any w3 lo hi _).mono ?_
    rintro e w' ⟨rfl, hw⟩
    rw [hw]
    clear hw w'
    generalize (if 0 ≤ lo ∧ lo ≤ hi ∧ hi ≤ ((0 : Nat) : Int) then none else some (111, Value.int .i64 2) : EV) = E2
    cases E2 with
    | none =>
      simp only [ev]
      go_wp2_with fail
      refine (firstOf2 _ w3.heap.size (some (T, x)) none (by simp [ev]) (by simp [ev])).mono ?_
      rintro e w' ⟨rfl, hw⟩
      rw [hw]
      clear hw w'
      simp only [ev, firstE]
      obtain ⟨w4, e4⟩ : ∃ y, w3.alloc (.cells #[.iface T x, .nilIface] 71) = y := ⟨_, rfl⟩
      have hb4 : Below w3.heap.size w3 w4 := by subst e4; exact (Below.refl _ w3).alloc (Nat.le_refl _) _
      have HB4 := Aside0.mk (below_step HB3.out hb4)
      have HY4 := Aside0.mk (blk_below HY3.out hb4)
      have HE4 := Aside0.mk (HE3.out.below hb4)
      rw [e4]
      clear e4 hb4
      go_wp2_with fail
      refine (codeOf_any _ 1 w4 (HG0.out.below HB4.out) HE4.out).mono ?_
      rintro e w5 ⟨rfl, hb5⟩
      have HB5 := Aside0.mk (below_step HB4.out hb5)
      have HY5 := Aside0.mk (blk_below HY4.out hb5)
      obtain ⟨p0, p1, p2⟩ := box_at HY5.out
      have f0 := blk_frozen HY5.out 0
      have f1 := blk_frozen HY5.out 1
      have f2 := blk_frozen HY5.out 2
      have BX : Aside0 _ := ⟨box_put HY5.out (.slice none 0 0) (.int .i64 0) (.int .i64 0)⟩
      clear hb5
      go_wp2
      refine bodyPost_ret (results_list (rs := [.cell 6 28, .tmp 7]) rfl (by simp) (.cell (w.heap.size + 1) 28 _ (0, 0) _ rfl BX.out Tryd.underlying28 rfl (by kernel_rfl) (.tmp .nil))) rfl ?_
      have e : gapDeleteV xs glo ghi lo hi = ([], 0, 0, 1) := by
        unfold gapDeleteV; rw [if_neg NOK.out]
      rw [e]
      exact GapPost.none _ (below_put HB5.out (Nat.le_succ _) _ _ _)
    | some y =>
      obtain ⟨T2, x2⟩ := y
      simp only [ev]
      go_wp2_with fail
      refine (firstOf2 _ w3.heap.size (some (T, x)) (some (T2, x2)) (by simp [ev]) (by simp [ev])).mono ?_
      rintro e w' ⟨rfl, hw⟩
      rw [hw]
      clear hw w'
      simp only [ev, firstE]
      obtain ⟨w4, e4⟩ : ∃ y, w3.alloc (.cells #[.iface T x, .iface T2 x2] 71) = y := ⟨_, rfl⟩
      have hb4 : Below w3.heap.size w3 w4 := by subst e4; exact (Below.refl _ w3).alloc (Nat.le_refl _) _
      have HB4 := Aside0.mk (below_step HB3.out hb4)
      have HY4 := Aside0.mk (blk_below HY3.out hb4)
      have HE4 := Aside0.mk (HE3.out.below hb4)
      rw [e4]
      clear e4 hb4
      go_wp2_with fail
      refine (codeOf_any _ 1 w4 (HG0.out.below HB4.out) HE4.out).mono ?_
      rintro e w5 ⟨rfl, hb5⟩
      have HB5 := Aside0.mk (below_step HB4.out hb5)
      have HY5 := Aside0.mk (blk_below HY4.out hb5)
      obtain ⟨p0, p1, p2⟩ := box_at HY5.out
      have f0 := blk_frozen HY5.out 0
      have f1 := blk_frozen HY5.out 1
      have f2 := blk_frozen HY5.out 2
      have BX : Aside0 _ := ⟨box_put HY5.out (.slice none 0 0) (.int .i64 0) (.int .i64 0)⟩
      clear hb5
      go_wp2
      refine bodyPost_ret (results_list (rs := [.cell 6 28, .tmp 7]) rfl (by simp) (.cell (w.heap.size + 1) 28 _ (0, 0) _ rfl BX.out Tryd.underlying28 rfl (by kernel_rfl) (.tmp .nil))) rfl ?_
      have e : gapDeleteV xs glo ghi lo hi = ([], 0, 0, 1) := by
        unfold gapDeleteV; rw [if_neg NOK.out]
      rw [e]
      exact GapPost.none _ (below_put HB5.out (Nat.le_succ _) _ _ _)
end Go.Proofs.YtlacoameobpfgaaDoor
