/- GapInsert, walked. Conditions: at most 1048576 cells and runes; errors.errorType reads as laid. -/
import Derived.Test.YtlacoameobpfgaaDoorGp9
namespace Go.Proofs.YtlacoameobpfgaaDoor
open Go.RowKit Go.Proofs.YtlacoameobpfgaaDoorW.PrintWords Go.Proofs.YtlacoameobpfgaaDoorW.PrintLast Go.Proofs.YtlacoameobpfgaaDoorW.PrintMore Er
/-- what GapInsert answers -/
def gapInsertV (xs : List Int) (glo ghi at_ : Int) (es : List Int) : List Int × Int × Int × Int :=
  if okGap xs glo ghi then (if 0 ≤ at_ ∧ at_ ≤ ((txt xs glo ghi).length : Int) then (if (txt xs glo ghi).length + es.length ≤ 8192 then
    (lay (withIn (txt xs glo ghi) es at_.toNat) (at_.toNat + es.length) (gapAfter (txt xs glo ghi).length (ghi - glo).toNat es.length), ((at_.toNat + es.length : Nat) : Int), ((at_.toNat + es.length + gapAfter (txt xs glo ghi).length (ghi - glo).toNat es.length : Nat) : Int), 0)
    else ([], 0, 0, 10)) else ([], 0, 0, 2)) else ([], 0, 0, 1)
theorem firstOf3' (w : World) (g : Nat) (a b c : EV) (h0 : w.cell? ⟨g, 0, none⟩ = some (ev a)) (h1 : w.cell? ⟨g, 1, none⟩ = some (ev b)) (h2 : w.cell? ⟨g, 2, none⟩ = some (ev c)) :
    Calls Tryd.prog 47 #[.slice (some ⟨g, 0, none⟩) 3 3] w fun e w' => e = .returned (ev (firstE [a, b, c])) ∧ w' = w := firstOf3 w g a b c h0 h1 h2
set_option maxHeartbeats 4000000 in
set_option maxRecDepth 100000 in
theorem gapInsert_any (w : World) (xs : List Int) (A : Option Addr) (c : Nat) (glo ghi at_ : Int) (es : List Int) (E : Option Addr) (ce : Nat) (hm : xs.length ≤ 1048576) (hm2 : es.length ≤ 1048576) (hr : (Kd.int .i32).C w A xs.length xs) (hc : xs.length ≤ c) (hre : (Kd.int .i32).C w E es.length es) (hg : HG w) :
    Calls Tryd.prog 24 #[.agg #[.slice A xs.length c, .int .i64 glo, .int .i64 ghi], .int .i64 at_, .slice E es.length ce] w (GapPost w (gapInsertV xs glo ghi at_ es)) := by
  obtain ⟨w0, e0⟩ : ∃ y, w.alloc (.cells #[.slice A xs.length c, .int .i64 glo, .int .i64 ghi] 28) = y := ⟨_, rfl⟩
  have HB0 : Aside0 (Below w.heap.size w w0) := ⟨by subst e0; exact (Below.refl _ w).alloc (Nat.le_refl _) _⟩
  have HX0 : Aside0 (w0.heap[w.heap.size]? = some (.cells #[.slice A xs.length c, .int .i64 glo, .int .i64 ghi] 28 (0, 0))) := ⟨by subst e0; exact blk_new w (.cells #[.slice A xs.length c, .int .i64 glo, .int .i64 ghi] 28)⟩
  have z0 : w0.heap.size = w.heap.size + 1 := by subst e0; simp
  obtain ⟨w1, e1⟩ : ∃ y, w0.alloc (.cells #[.slice none 0 0, .int .i64 0, .int .i64 0] 28) = y := ⟨_, rfl⟩
  have hb1 : Below w0.heap.size w0 w1 := by subst e1; exact (Below.refl _ w0).alloc (Nat.le_refl _) _
  have HB1 : Aside0 (Below w.heap.size w w1) := ⟨below_step HB0.out hb1⟩
  have HX1 : Aside0 (w1.heap[w.heap.size]? = some (.cells #[.slice A xs.length c, .int .i64 glo, .int .i64 ghi] 28 (0, 0))) := ⟨blk_below HX0.out hb1⟩
  have HY1 : Aside0 (w1.heap[w.heap.size + 1]? = some (.cells #[.slice none 0 0, .int .i64 0, .int .i64 0] 28 (0, 0))) := ⟨by rw [← z0]; subst e1; exact blk_new w0 (.cells #[.slice none 0 0, .int .i64 0, .int .i64 0] 28)⟩
  have hlt1 : Aside0 (w.heap.size + 1 < w1.heap.size) := ⟨blk_lt HY1.out⟩
  obtain ⟨q0, q1, q2⟩ := box_at HX1.out
  have HR := Aside0.mk (Kd.C_below hr HB1.out)
  have HG0 := Aside0.mk hg
  have HRE := Aside0.mk (Kd.C_below hre HB1.out)
  clear hr hg hb1 hre
  go_enter Tryd.func24, Tryd.ntmps24
  go_wp2_with fail
  refine (opened_any w1 xs A c glo ghi HR.out hc hm).mono ?_
  intro e w2 hp
  obtain ⟨hb2, hp⟩ := hp
  have hb2_ := hb2
  have HB2 := Aside0.mk (below_step HB1.out hb2)
  have HY2 := Aside0.mk (blk_below HY1.out hb2)
  clear hb2 q0 q1 q2 e0 e1 z0
  have hb12 := Aside0.mk hb2_
  clear hb2_
  rcases hp with ⟨ok, b, rfl, hgi⟩ | ⟨nok, b, v, rfl, hgi, hE⟩
  · have OK := Aside0.mk ok
    have GI := Aside0.mk hgi
    have hTl : (xs.take glo.toNat ++ xs.drop ghi.toNat).length ≤ 8192 := (okGap_lay ok).2.2.1
    have hTg : (xs.take glo.toNat ++ xs.drop ghi.toNat).length + (ghi - glo).toNat ≤ 65536 := by rw [(okGap_lay ok).2.2.2]; exact ok.1
    clear ok hgi
    obtain ⟨T, HT⟩ : ∃ T, Aside0 (T = xs.take glo.toNat ++ xs.drop ghi.toNat) := ⟨_, ⟨rfl⟩⟩
    rw [← HT.out] at GI hTl hTg
    have HTG := Aside0.mk hTg
    clear hTg
    simp only [gpt]
    go_wp2_with fail
    refine (gsize_any w2 _ b _ _ _ GI.out).mono ?_
    rintro e w3 ⟨rfl, hb3⟩
    have HB3 := Aside0.mk (below_step HB2.out hb3)
    have HY3 := Aside0.mk (blk_below HY2.out hb3)
    have GI3 := Aside0.mk (GI.out.below hb3)
    have hb23 := Aside0.mk hb3
    clear hb3
    by_cases cin : 0 ≤ at_ ∧ at_ ≤ (T.length : Int)
    · by_cases cfl : T.length + es.length ≤ 8192
      · go_wp2_with fail
        have hwi := within_any w3 at_ 0 (T.length : Nat)
        rw [decide_eq_true cin] at hwi
        refine hwi.mono ?_
        clear hwi
        rintro e w' ⟨rfl, hw⟩
        rw [hw]
        clear hw w'
        go_wp2_with fail
        refine (unless_any w3 true 2).mono ?_
        rintro e w' ⟨rfl, hw⟩
        rw [hw]
        clear hw w'
        simp only [ev, if_true]
        go_wp2_with fail
        refine (gsize_any w3 _ b _ _ _ GI3.out).mono ?_
        rintro e w4 ⟨rfl, hb4⟩
        have HB4 := Aside0.mk (below_step HB3.out hb4)
        have HY4 := Aside0.mk (blk_below HY3.out hb4)
        have GI4 := Aside0.mk (GI3.out.below hb4)
        skip
        have hb34 := Aside0.mk hb4
        clear hb4
        have cfd : decide (((T.length : Int) + (es.length : Int)) ≤ 8192) = true := decide_eq_true (by omega)
        go_wp2_with fail
        refine (unless_any w4 true 10).mono ?_
        rintro e w' ⟨rfl, hw⟩
        rw [hw]
        clear hw w'
        simp only [ev, if_true]
        go_wp2_with fail
        refine (firstOf3 _ w4.heap.size none none none (by simp [ev]) (by simp [ev]) (by simp [ev])).mono ?_
        rintro e w' ⟨rfl, hw⟩
        rw [hw]
        clear hw w'
        simp only [ev, firstE]
        obtain ⟨w5, e5⟩ : ∃ y, w4.alloc (.cells #[.nilIface, .nilIface, .nilIface] 71) = y := ⟨_, rfl⟩
        have hb5 : Below w4.heap.size w4 w5 := by subst e5; exact (Below.refl _ w4).alloc (Nat.le_refl _) _
        have HB5 := Aside0.mk (below_step HB4.out hb5)
        have HY5 := Aside0.mk (blk_below HY4.out hb5)
        have GI5 := Aside0.mk (GI4.out.below hb5)
        have hb15 : Aside0 (Below w1.heap.size w1 w5) := ⟨below_step (below_step (below_step hb12.out hb23.out) hb34.out) hb5⟩
        rw [e5]
        clear e5 hb5
        obtain ⟨a', rfl⟩ : ∃ n : Nat, at_ = n := ⟨at_.toNat, by omega⟩
        go_wp2_with fail
        refine (insert_any w5 _ b _ _ _ a' es E ce GI5.out (by omega) (by omega) (by have := HTG.out; omega) (fun W hW => Kd.C_below HRE.out ((below_step hb15.out (Below.refl _ _)).trans (hW)))).mono ?_
        rintro e w6 ⟨rfl, hG6, hb6⟩
        have HB6 : Aside0 (Below w.heap.size w w6) := ⟨HB5.out.trans (hb6.mono HB1.out.size)⟩
        have HY6 : Aside0 (w6.heap[w.heap.size + 1]? = _) := ⟨(hb6.block _ hlt1.out).trans HY5.out⟩
        clear hb6
        have HG6 := Aside0.mk hG6
        clear hG6
        go_wp2_with fail
        refine (closed_any w6 _ b _ _ _ HG6.out).mono ?_
        rintro e w7 ⟨v, he, hR7, hb7⟩
        obtain ⟨h1, HH1⟩ : ∃ n : Nat, Aside0 (n = a' + es.length) := ⟨_, ⟨rfl⟩⟩
        obtain ⟨gp, HGP⟩ : ∃ n : Nat, Aside0 (n = gapAfter T.length (ghi - glo).toNat es.length) := ⟨_, ⟨rfl⟩⟩
        rw [← HH1.out, ← HGP.out] at he hR7
        obtain ⟨h2, HH2⟩ : ∃ n : Nat, Aside0 (n = h1 + gp) := ⟨_, ⟨rfl⟩⟩
        obtain ⟨ys, HYS⟩ : ∃ ys, Aside0 (ys = lay (withIn T es a') h1 gp) := ⟨_, ⟨rfl⟩⟩
        rw [← HH2.out] at he
        rw [← HYS.out] at hR7
        subst he
        obtain ⟨A7, c7, rfl⟩ := Kd.R_slice hR7
        have HR7 := Aside0.mk hR7
        have HB7 := Aside0.mk (below_step HB6.out hb7)
        have HY7 := Aside0.mk (blk_below HY6.out hb7)
        obtain ⟨p0, p1, p2⟩ := box_at HY7.out
        have f0 := blk_frozen HY7.out 0
        have f1 := blk_frozen HY7.out 1
        have f2 := blk_frozen HY7.out 2
        have CIN := Aside0.mk cin
        have CFL := Aside0.mk cfl
        have BX : Aside0 _ := ⟨box_put HY7.out (.slice A7 ys.length c7) (.int .i64 (h1 : Nat)) (.int .i64 (h2 : Nat))⟩
        have hle6 := Aside0.mk HB6.out.size
        have hlt6 := Aside0.mk (blk_lt HY6.out)
        clear cin cfl hR7 hb7
        go_wp2
        refine bodyPost_ret (results_list (rs := [.cell 6 28, .tmp 7]) rfl (by simp) (.cell (w.heap.size + 1) 28 _ (0, 0) _ rfl BX.out Tryd.underlying28 rfl (by kernel_rfl) (.tmp .nil))) rfl ?_
        have e : gapInsertV xs glo ghi a' es = (ys, (h1 : Int), (h2 : Int), 0) := by
          unfold gapInsertV txt; rw [if_pos OK.out, ← HT.out, if_pos CIN.out, if_pos CFL.out]; simp only [Int.toNat_natCast]; rw [← HH1.out, ← HGP.out, ← HH2.out, ← HYS.out]
        rw [e]
        exact ⟨_, rfl, R_put3 HR7.out hlt6.out hle6.out _ _ _, below_put HB7.out (Nat.le_succ _) _ _ _⟩
      · go_wp2_with fail
        have hwi := within_any w3 at_ 0 (T.length : Nat)
        rw [decide_eq_true cin] at hwi
        refine hwi.mono ?_
        clear hwi
        rintro e w' ⟨rfl, hw⟩
        rw [hw]
        clear hw w'
        go_wp2_with fail
        refine (unless_any w3 true 2).mono ?_
        rintro e w' ⟨rfl, hw⟩
        rw [hw]
        clear hw w'
        simp only [ev, if_true]
        go_wp2_with fail
        refine (gsize_any w3 _ b _ _ _ GI3.out).mono ?_
        rintro e w4 ⟨rfl, hb4⟩
        have HB4 := Aside0.mk (below_step HB3.out hb4)
        have HY4 := Aside0.mk (blk_below HY3.out hb4)
        have GI4 := Aside0.mk (GI3.out.below hb4)
        skip
        have hb34 := Aside0.mk hb4
        clear hb4
        have cfd : decide (((T.length : Int) + (es.length : Int)) ≤ 8192) = false := decide_eq_false (by omega)
        go_wp2_with fail
        refine (unless_any w4 false 10).mono ?_
        rintro e w' ⟨rfl, hw⟩
        rw [hw]
        clear hw w'
        simp only [ev, Bool.false_eq_true, if_false]
        go_wp2_with fail
        refine (firstOf3 _ w4.heap.size none none (some (111, .int .i64 10)) (by simp [ev]) (by simp [ev]) (by simp [ev])).mono ?_
        rintro e w' ⟨rfl, hw⟩
        rw [hw]
        clear hw w'
        simp only [ev, firstE]
        obtain ⟨w5, e5⟩ : ∃ y, w4.alloc (.cells #[.nilIface, .nilIface, .iface 111 (.int .i64 10)] 71) = y := ⟨_, rfl⟩
        have hb5 : Below w4.heap.size w4 w5 := by subst e5; exact (Below.refl _ w4).alloc (Nat.le_refl _) _
        have HB5 := Aside0.mk (below_step HB4.out hb5)
        have HY5 := Aside0.mk (blk_below HY4.out hb5)
        skip
        rw [e5]
        clear e5 hb5
        have CIN := Aside0.mk cin
        have CFL := Aside0.mk cfl
        clear cin cfl
        go_wp2_with fail
        refine (codeOf_any _ 10 w5 (HG0.out.below HB5.out) (.inl rfl)).mono ?_
        rintro e w6 ⟨rfl, hb6⟩
        have HB6 := Aside0.mk (below_step HB5.out hb6)
        have HY6 := Aside0.mk (blk_below HY5.out hb6)
        obtain ⟨p0, p1, p2⟩ := box_at HY6.out
        have f0 := blk_frozen HY6.out 0
        have f1 := blk_frozen HY6.out 1
        have f2 := blk_frozen HY6.out 2
        have BX : Aside0 _ := ⟨box_put HY6.out (.slice none 0 0) (.int .i64 0) (.int .i64 0)⟩
        clear hb6
        go_wp2
        refine bodyPost_ret (results_list (rs := [.cell 6 28, .tmp 7]) rfl (by simp) (.cell (w.heap.size + 1) 28 _ (0, 0) _ rfl BX.out Tryd.underlying28 rfl (by kernel_rfl) (.tmp .nil))) rfl ?_
        have e : gapInsertV xs glo ghi at_ es = ([], 0, 0, 10) := by
          unfold gapInsertV txt; rw [if_pos OK.out, ← HT.out, if_pos CIN.out, if_neg CFL.out]
        rw [e]
        exact GapPost.none _ (below_put HB6.out (Nat.le_succ _) _ _ _)
    · by_cases cfl : T.length + es.length ≤ 8192
      · go_wp2_with fail
        have hwi := within_any w3 at_ 0 (T.length : Nat)
        rw [decide_eq_false cin] at hwi
        refine hwi.mono ?_
        clear hwi
        rintro e w' ⟨rfl, hw⟩
        rw [hw]
        clear hw w'
        go_wp2_with fail
        refine (unless_any w3 false 2).mono ?_
        rintro e w' ⟨rfl, hw⟩
        rw [hw]
        clear hw w'
        simp only [ev, Bool.false_eq_true, if_false]
        go_wp2_with fail
        refine (gsize_any w3 _ b _ _ _ GI3.out).mono ?_
        rintro e w4 ⟨rfl, hb4⟩
        have HB4 := Aside0.mk (below_step HB3.out hb4)
        have HY4 := Aside0.mk (blk_below HY3.out hb4)
        have GI4 := Aside0.mk (GI3.out.below hb4)
        skip
        have hb34 := Aside0.mk hb4
        clear hb4
        have cfd : decide (((T.length : Int) + (es.length : Int)) ≤ 8192) = true := decide_eq_true (by omega)
        go_wp2_with fail
        refine (unless_any w4 true 10).mono ?_
        rintro e w' ⟨rfl, hw⟩
        rw [hw]
        clear hw w'
        simp only [ev, if_true]
        go_wp2_with fail
        refine (firstOf3 _ w4.heap.size none (some (111, .int .i64 2)) none (by simp [ev]) (by simp [ev]) (by simp [ev])).mono ?_
        rintro e w' ⟨rfl, hw⟩
        rw [hw]
        clear hw w'
        simp only [ev, firstE]
        obtain ⟨w5, e5⟩ : ∃ y, w4.alloc (.cells #[.nilIface, .iface 111 (.int .i64 2), .nilIface] 71) = y := ⟨_, rfl⟩
        have hb5 : Below w4.heap.size w4 w5 := by subst e5; exact (Below.refl _ w4).alloc (Nat.le_refl _) _
        have HB5 := Aside0.mk (below_step HB4.out hb5)
        have HY5 := Aside0.mk (blk_below HY4.out hb5)
        skip
        rw [e5]
        clear e5 hb5
        have CIN := Aside0.mk cin
        have CFL := Aside0.mk cfl
        clear cin cfl
        go_wp2_with fail
        refine (codeOf_any _ 2 w5 (HG0.out.below HB5.out) (.inl rfl)).mono ?_
        rintro e w6 ⟨rfl, hb6⟩
        have HB6 := Aside0.mk (below_step HB5.out hb6)
        have HY6 := Aside0.mk (blk_below HY5.out hb6)
        obtain ⟨p0, p1, p2⟩ := box_at HY6.out
        have f0 := blk_frozen HY6.out 0
        have f1 := blk_frozen HY6.out 1
        have f2 := blk_frozen HY6.out 2
        have BX : Aside0 _ := ⟨box_put HY6.out (.slice none 0 0) (.int .i64 0) (.int .i64 0)⟩
        clear hb6
        go_wp2
        refine bodyPost_ret (results_list (rs := [.cell 6 28, .tmp 7]) rfl (by simp) (.cell (w.heap.size + 1) 28 _ (0, 0) _ rfl BX.out Tryd.underlying28 rfl (by kernel_rfl) (.tmp .nil))) rfl ?_
        have e : gapInsertV xs glo ghi at_ es = ([], 0, 0, 2) := by
          unfold gapInsertV txt; rw [if_pos OK.out, ← HT.out, if_neg CIN.out]
        rw [e]
        exact GapPost.none _ (below_put HB6.out (Nat.le_succ _) _ _ _)
      · go_wp2_with fail
        have hwi := within_any w3 at_ 0 (T.length : Nat)
        rw [decide_eq_false cin] at hwi
        refine hwi.mono ?_
        clear hwi
        rintro e w' ⟨rfl, hw⟩
        rw [hw]
        clear hw w'
        go_wp2_with fail
        refine (unless_any w3 false 2).mono ?_
        rintro e w' ⟨rfl, hw⟩
        rw [hw]
        clear hw w'
        simp only [ev, Bool.false_eq_true, if_false]
        go_wp2_with fail
        refine (gsize_any w3 _ b _ _ _ GI3.out).mono ?_
        rintro e w4 ⟨rfl, hb4⟩
        have HB4 := Aside0.mk (below_step HB3.out hb4)
        have HY4 := Aside0.mk (blk_below HY3.out hb4)
        have GI4 := Aside0.mk (GI3.out.below hb4)
        skip
        have hb34 := Aside0.mk hb4
        clear hb4
        have cfd : decide (((T.length : Int) + (es.length : Int)) ≤ 8192) = false := decide_eq_false (by omega)
        go_wp2_with fail
        refine (unless_any w4 false 10).mono ?_
        rintro e w' ⟨rfl, hw⟩
        rw [hw]
        clear hw w'
        simp only [ev, Bool.false_eq_true, if_false]
        go_wp2_with fail
        refine (firstOf3 _ w4.heap.size none (some (111, .int .i64 2)) (some (111, .int .i64 10)) (by simp [ev]) (by simp [ev]) (by simp [ev])).mono ?_
        rintro e w' ⟨rfl, hw⟩
        rw [hw]
        clear hw w'
        simp only [ev, firstE]
        obtain ⟨w5, e5⟩ : ∃ y, w4.alloc (.cells #[.nilIface, .iface 111 (.int .i64 2), .iface 111 (.int .i64 10)] 71) = y := ⟨_, rfl⟩
        have hb5 : Below w4.heap.size w4 w5 := by subst e5; exact (Below.refl _ w4).alloc (Nat.le_refl _) _
        have HB5 := Aside0.mk (below_step HB4.out hb5)
        have HY5 := Aside0.mk (blk_below HY4.out hb5)
        skip
        rw [e5]
        clear e5 hb5
        have CIN := Aside0.mk cin
        have CFL := Aside0.mk cfl
        clear cin cfl
        go_wp2_with fail
        refine (codeOf_any _ 2 w5 (HG0.out.below HB5.out) (.inl rfl)).mono ?_
        rintro e w6 ⟨rfl, hb6⟩
        have HB6 := Aside0.mk (below_step HB5.out hb6)
        have HY6 := Aside0.mk (blk_below HY5.out hb6)
        obtain ⟨p0, p1, p2⟩ := box_at HY6.out
        have f0 := blk_frozen HY6.out 0
        have f1 := blk_frozen HY6.out 1
        have f2 := blk_frozen HY6.out 2
        have BX : Aside0 _ := ⟨box_put HY6.out (.slice none 0 0) (.int .i64 0) (.int .i64 0)⟩
        clear hb6
        go_wp2
        refine bodyPost_ret (results_list (rs := [.cell 6 28, .tmp 7]) rfl (by simp) (.cell (w.heap.size + 1) 28 _ (0, 0) _ rfl BX.out Tryd.underlying28 rfl (by kernel_rfl) (.tmp .nil))) rfl ?_
        have e : gapInsertV xs glo ghi at_ es = ([], 0, 0, 2) := by
          unfold gapInsertV txt; rw [if_pos OK.out, ← HT.out, if_neg CIN.out]
        rw [e]
        exact GapPost.none _ (below_put HB6.out (Nat.le_succ _) _ _ _)
  · obtain ⟨T, x, rfl⟩ := errIs_ev hE
    have HE := Aside0.mk hE
    have NOK := Aside0.mk nok
    have GI := Aside0.mk hgi
    clear hE nok hgi
    simp only [ev, gpt]
    go_wp2_with fail
    refine (gsize_any w2 _ b _ _ _ GI.out).mono ?_
    rintro e w3 ⟨rfl, hb3⟩
    have HB3 := Aside0.mk (below_step HB2.out hb3)
    have HY3 := Aside0.mk (blk_below HY2.out hb3)
    have HE3 := Aside0.mk (HE.out.below hb3)
    have GI3 := Aside0.mk (GI.out.below hb3)
    clear hb3
    simp only [List.length_nil]
    go_wp2_with fail
    refine (within_any w3 at_ 0 _).mono ?_
    rintro e w' ⟨rfl, hw⟩
    rw [hw]
    clear hw w'
    generalize decide (0 ≤ at_ ∧ at_ ≤ ((0 : Nat) : Int)) = b2
    by_cases cfl : es.length ≤ 8192
    · cases b2 with
      | true =>
        go_wp2_with fail
        refine (unless_any w3 true 2).mono ?_
        rintro e w' ⟨rfl, hw⟩
        rw [hw]
        clear hw w'
        simp only [ev, if_true]
        go_wp2_with fail
        refine (gsize_any w3 _ b _ _ _ GI3.out).mono ?_
        rintro e w4 ⟨rfl, hb4⟩
        have HB4 := Aside0.mk (below_step HB3.out hb4)
        have HY4 := Aside0.mk (blk_below HY3.out hb4)
        have HE4 := Aside0.mk (HE3.out.below hb4)
        clear hb4
        simp only [List.length_nil]
        have cfd : decide ((es.length : Int) ≤ 8192) = true := decide_eq_true (by omega)
        go_wp2_with fail
        refine (unless_any w4 true 10).mono ?_
        rintro e w' ⟨rfl, hw⟩
        rw [hw]
        clear hw w'
        simp only [ev, if_true]
        go_wp2_with fail
        refine (firstOf3 _ w4.heap.size (some (T, x)) none none (by simp [ev]) (by simp [ev]) (by simp [ev])).mono ?_
        rintro e w' ⟨rfl, hw⟩
        rw [hw]
        clear hw w'
        simp only [ev, firstE]
        obtain ⟨w5, e5⟩ : ∃ y, w4.alloc (.cells #[.iface T x, .nilIface, .nilIface] 71) = y := ⟨_, rfl⟩
        have hb5 : Below w4.heap.size w4 w5 := by subst e5; exact (Below.refl _ w4).alloc (Nat.le_refl _) _
        have HB5 := Aside0.mk (below_step HB4.out hb5)
        have HY5 := Aside0.mk (blk_below HY4.out hb5)
        have HE5 := Aside0.mk (HE4.out.below hb5)
        rw [e5]
        clear e5 hb5
        go_wp2_with fail
        refine (codeOf_any _ 1 w5 (HG0.out.below HB5.out) HE5.out).mono ?_
        rintro e w6 ⟨rfl, hb6⟩
        have HB6 := Aside0.mk (below_step HB5.out hb6)
        have HY6 := Aside0.mk (blk_below HY5.out hb6)
        obtain ⟨p0, p1, p2⟩ := box_at HY6.out
        have f0 := blk_frozen HY6.out 0
        have f1 := blk_frozen HY6.out 1
        have f2 := blk_frozen HY6.out 2
        have BX : Aside0 _ := ⟨box_put HY6.out (.slice none 0 0) (.int .i64 0) (.int .i64 0)⟩
        clear hb6
        go_wp2
        refine bodyPost_ret (results_list (rs := [.cell 6 28, .tmp 7]) rfl (by simp) (.cell (w.heap.size + 1) 28 _ (0, 0) _ rfl BX.out Tryd.underlying28 rfl (by kernel_rfl) (.tmp .nil))) rfl ?_
        have e : gapInsertV xs glo ghi at_ es = ([], 0, 0, 1) := by
          unfold gapInsertV; rw [if_neg NOK.out]
        rw [e]
        exact GapPost.none _ (below_put HB6.out (Nat.le_succ _) _ _ _)
      | false =>
        go_wp2_with fail
        refine (unless_any w3 false 2).mono ?_
        rintro e w' ⟨rfl, hw⟩
        rw [hw]
        clear hw w'
        simp only [ev, Bool.false_eq_true, if_false]
        go_wp2_with fail
        refine (gsize_any w3 _ b _ _ _ GI3.out).mono ?_
        rintro e w4 ⟨rfl, hb4⟩
        have HB4 := Aside0.mk (below_step HB3.out hb4)
        have HY4 := Aside0.mk (blk_below HY3.out hb4)
        have HE4 := Aside0.mk (HE3.out.below hb4)
        clear hb4
        simp only [List.length_nil]
        have cfd : decide ((es.length : Int) ≤ 8192) = true := decide_eq_true (by omega)
        go_wp2_with fail
        refine (unless_any w4 true 10).mono ?_
        rintro e w' ⟨rfl, hw⟩
        rw [hw]
        clear hw w'
        simp only [ev, if_true]
        go_wp2_with fail
        refine (firstOf3 _ w4.heap.size (some (T, x)) (some (111, .int .i64 2)) none (by simp [ev]) (by simp [ev]) (by simp [ev])).mono ?_
        rintro e w' ⟨rfl, hw⟩
        rw [hw]
        clear hw w'
        simp only [ev, firstE]
        obtain ⟨w5, e5⟩ : ∃ y, w4.alloc (.cells #[.iface T x, .iface 111 (.int .i64 2), .nilIface] 71) = y := ⟨_, rfl⟩
        have hb5 : Below w4.heap.size w4 w5 := by subst e5; exact (Below.refl _ w4).alloc (Nat.le_refl _) _
        have HB5 := Aside0.mk (below_step HB4.out hb5)
        have HY5 := Aside0.mk (blk_below HY4.out hb5)
        have HE5 := Aside0.mk (HE4.out.below hb5)
        rw [e5]
        clear e5 hb5
        go_wp2_with fail
        refine (codeOf_any _ 1 w5 (HG0.out.below HB5.out) HE5.out).mono ?_
        rintro e w6 ⟨rfl, hb6⟩
        have HB6 := Aside0.mk (below_step HB5.out hb6)
        have HY6 := Aside0.mk (blk_below HY5.out hb6)
        obtain ⟨p0, p1, p2⟩ := box_at HY6.out
        have f0 := blk_frozen HY6.out 0
        have f1 := blk_frozen HY6.out 1
        have f2 := blk_frozen HY6.out 2
        have BX : Aside0 _ := ⟨box_put HY6.out (.slice none 0 0) (.int .i64 0) (.int .i64 0)⟩
        clear hb6
        go_wp2
        refine bodyPost_ret (results_list (rs := [.cell 6 28, .tmp 7]) rfl (by simp) (.cell (w.heap.size + 1) 28 _ (0, 0) _ rfl BX.out Tryd.underlying28 rfl (by kernel_rfl) (.tmp .nil))) rfl ?_
        have e : gapInsertV xs glo ghi at_ es = ([], 0, 0, 1) := by
          unfold gapInsertV; rw [if_neg NOK.out]
        rw [e]
        exact GapPost.none _ (below_put HB6.out (Nat.le_succ _) _ _ _)
    · cases b2 with
      | true =>
        go_wp2_with fail
        refine (unless_any w3 true 2).mono ?_
        rintro e w' ⟨rfl, hw⟩
        rw [hw]
        clear hw w'
        simp only [ev, if_true]
        go_wp2_with fail
        refine (gsize_any w3 _ b _ _ _ GI3.out).mono ?_
        rintro e w4 ⟨rfl, hb4⟩
        have HB4 := Aside0.mk (below_step HB3.out hb4)
        have HY4 := Aside0.mk (blk_below HY3.out hb4)
        have HE4 := Aside0.mk (HE3.out.below hb4)
        clear hb4
        simp only [List.length_nil]
        have cfd : decide ((es.length : Int) ≤ 8192) = false := decide_eq_false (by omega)
        go_wp2_with fail
        refine (unless_any w4 false 10).mono ?_
        rintro e w' ⟨rfl, hw⟩
        rw [hw]
        clear hw w'
        simp only [ev, Bool.false_eq_true, if_false]
        go_wp2_with fail
        refine (firstOf3 _ w4.heap.size (some (T, x)) none (some (111, .int .i64 10)) (by simp [ev]) (by simp [ev]) (by simp [ev])).mono ?_
        rintro e w' ⟨rfl, hw⟩
        rw [hw]
        clear hw w'
        simp only [ev, firstE]
        obtain ⟨w5, e5⟩ : ∃ y, w4.alloc (.cells #[.iface T x, .nilIface, .iface 111 (.int .i64 10)] 71) = y := ⟨_, rfl⟩
        have hb5 : Below w4.heap.size w4 w5 := by subst e5; exact (Below.refl _ w4).alloc (Nat.le_refl _) _
        have HB5 := Aside0.mk (below_step HB4.out hb5)
        have HY5 := Aside0.mk (blk_below HY4.out hb5)
        have HE5 := Aside0.mk (HE4.out.below hb5)
        rw [e5]
        clear e5 hb5
        go_wp2_with fail
        refine (codeOf_any _ 1 w5 (HG0.out.below HB5.out) HE5.out).mono ?_
        rintro e w6 ⟨rfl, hb6⟩
        have HB6 := Aside0.mk (below_step HB5.out hb6)
        have HY6 := Aside0.mk (blk_below HY5.out hb6)
        obtain ⟨p0, p1, p2⟩ := box_at HY6.out
        have f0 := blk_frozen HY6.out 0
        have f1 := blk_frozen HY6.out 1
        have f2 := blk_frozen HY6.out 2
        have BX : Aside0 _ := ⟨box_put HY6.out (.slice none 0 0) (.int .i64 0) (.int .i64 0)⟩
        clear hb6
        go_wp2
        refine bodyPost_ret (results_list (rs := [.cell 6 28, .tmp 7]) rfl (by simp) (.cell (w.heap.size + 1) 28 _ (0, 0) _ rfl BX.out Tryd.underlying28 rfl (by kernel_rfl) (.tmp .nil))) rfl ?_
        have e : gapInsertV xs glo ghi at_ es = ([], 0, 0, 1) := by
          unfold gapInsertV; rw [if_neg NOK.out]
        rw [e]
        exact GapPost.none _ (below_put HB6.out (Nat.le_succ _) _ _ _)
      | false =>
        go_wp2_with fail
        refine (unless_any w3 false 2).mono ?_
        rintro e w' ⟨rfl, hw⟩
        rw [hw]
        clear hw w'
        simp only [ev, Bool.false_eq_true, if_false]
        go_wp2_with fail
        refine (gsize_any w3 _ b _ _ _ GI3.out).mono ?_
        rintro e w4 ⟨rfl, hb4⟩
        have HB4 := Aside0.mk (below_step HB3.out hb4)
        have HY4 := Aside0.mk (blk_below HY3.out hb4)
        have HE4 := Aside0.mk (HE3.out.below hb4)
        clear hb4
        simp only [List.length_nil]
        have cfd : decide ((es.length : Int) ≤ 8192) = false := decide_eq_false (by omega)
        go_wp2_with fail
        refine (unless_any w4 false 10).mono ?_
        rintro e w' ⟨rfl, hw⟩
        rw [hw]
        clear hw w'
        simp only [ev, Bool.false_eq_true, if_false]
        go_wp2_with fail
        refine (firstOf3 _ w4.heap.size (some (T, x)) (some (111, .int .i64 2)) (some (111, .int .i64 10)) (by simp [ev]) (by simp [ev]) (by simp [ev])).mono ?_
        rintro e w' ⟨rfl, hw⟩
        rw [hw]
        clear hw w'
        simp only [ev, firstE]
        obtain ⟨w5, e5⟩ : ∃ y, w4.alloc (.cells #[.iface T x, .iface 111 (.int .i64 2), .iface 111 (.int .i64 10)] 71) = y := ⟨_, rfl⟩
        have hb5 : Below w4.heap.size w4 w5 := by subst e5; exact (Below.refl _ w4).alloc (Nat.le_refl _) _
        have HB5 := Aside0.mk (below_step HB4.out hb5)
        have HY5 := Aside0.mk (blk_below HY4.out hb5)
        have HE5 := Aside0.mk (HE4.out.below hb5)
        rw [e5]
        clear e5 hb5
        go_wp2_with fail
        refine (codeOf_any _ 1 w5 (HG0.out.below HB5.out) HE5.out).mono ?_
        rintro e w6 ⟨rfl, hb6⟩
        have HB6 := Aside0.mk (below_step HB5.out hb6)
        have HY6 := Aside0.mk (blk_below HY5.out hb6)
        obtain ⟨p0, p1, p2⟩ := box_at HY6.out
        have f0 := blk_frozen HY6.out 0
        have f1 := blk_frozen HY6.out 1
        have f2 := blk_frozen HY6.out 2
        have BX : Aside0 _ := ⟨box_put HY6.out (.slice none 0 0) (.int .i64 0) (.int .i64 0)⟩
        clear hb6
        go_wp2
        refine bodyPost_ret (results_list (rs := [.cell 6 28, .tmp 7]) rfl (by simp) (.cell (w.heap.size + 1) 28 _ (0, 0) _ rfl BX.out Tryd.underlying28 rfl (by kernel_rfl) (.tmp .nil))) rfl ?_
        have e : gapInsertV xs glo ghi at_ es = ([], 0, 0, 1) := by
          unfold gapInsertV; rw [if_neg NOK.out]
        rw [e]
        exact GapPost.none _ (below_put HB6.out (Nat.le_succ _) _ _ _)
end Go.Proofs.YtlacoameobpfgaaDoor
