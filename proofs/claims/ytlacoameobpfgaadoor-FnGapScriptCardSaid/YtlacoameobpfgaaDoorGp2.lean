/- GapRead, walked. Conditions: at most 1048576 cells; errors.errorType reads as laid. -/
import Derived.Test.YtlacoameobpfgaaDoorGp1
namespace Go.Proofs.YtlacoameobpfgaaDoor
open Go.RowKit Go.Proofs.YtlacoameobpfgaaDoorW.PrintWords Go.Proofs.YtlacoameobpfgaaDoorW.PrintLast Go.Proofs.YtlacoameobpfgaaDoorW.PrintMore Er
def txt (xs : List Int) (lo hi : Int) : List Int := xs.take lo.toNat ++ xs.drop hi.toNat
/-- what GapRead answers -/
def gapReadV (xs : List Int) (glo ghi lo hi : Int) : List Int × Int :=
  if okGap xs glo ghi then (if 0 ≤ lo ∧ lo ≤ hi ∧ hi ≤ ((txt xs glo ghi).length : Int) then (((txt xs glo ghi).take hi.toNat).drop lo.toNat, 0) else ([], 2)) else ([], 1)
def TextPost (w : World) (r : List Int × Int) (e : Ending) (w' : World) : Prop := ∃ v0_ : Value, e = .returned (.tuple #[v0_, .int .i64 r.2]) ∧ Kd.R (Kd.int .i32) 21 w' w.heap.size (fun _ => True) v0_ r.1 ∧ Below w.heap.size w w'
set_option maxHeartbeats 4000000 in
set_option maxRecDepth 100000 in
theorem gapRead_any (w : World) (xs : List Int) (A : Option Addr) (c : Nat) (glo ghi lo hi : Int) (hm : xs.length ≤ 1048576) (hr : (Kd.int .i32).C w A xs.length xs) (hc : xs.length ≤ c) (hg : HG w) :
    Calls Tryd.prog 13 #[.agg #[.slice A xs.length c, .int .i64 glo, .int .i64 ghi], .int .i64 lo, .int .i64 hi] w (TextPost w (gapReadV xs glo ghi lo hi)) := by
  obtain ⟨w0, e0⟩ : ∃ y, w.alloc (.cells #[.slice A xs.length c, .int .i64 glo, .int .i64 ghi] 28) = y := ⟨_, rfl⟩
  have HB0 : Aside0 (Below w.heap.size w w0) := ⟨by subst e0; exact (Below.refl _ w).alloc (Nat.le_refl _) _⟩
  have HX : Aside0 (w0.heap[w.heap.size]? = some (.cells #[.slice A xs.length c, .int .i64 glo, .int .i64 ghi] 28 (0, 0))) := ⟨by subst e0; exact blk_new w (.cells #[.slice A xs.length c, .int .i64 glo, .int .i64 ghi] 28)⟩
  have q0 : w0.cell? ⟨w.heap.size, 0, none⟩ = some (.slice A xs.length c) := (blk_cell HX.out 0).trans rfl
  have q1 : w0.cell? ⟨w.heap.size, 1, none⟩ = some (.int .i64 glo) := (blk_cell HX.out 1).trans rfl
  have q2 : w0.cell? ⟨w.heap.size, 2, none⟩ = some (.int .i64 ghi) := (blk_cell HX.out 2).trans rfl
  have HR := Aside0.mk (Kd.C_below hr HB0.out)
  have HG0 := Aside0.mk hg
  clear hr hg
  go_enter Tryd.func13, Tryd.ntmps13
  go_wp2_with fail
  refine (opened_any w0 xs A c glo ghi HR.out hc hm).mono ?_
  intro e w1 hp
  obtain ⟨hb1, hp⟩ := hp
  have HB1 := Aside0.mk (below_step HB0.out hb1)
  clear hb1 q0 q1 q2 e0
  rcases hp with ⟨ok, b, rfl, hgi⟩ | ⟨nok, b, v, rfl, hgi, hE⟩
  · have OK := Aside0.mk ok
    have GI := Aside0.mk hgi
    have hTl : (xs.take glo.toNat ++ xs.drop ghi.toNat).length ≤ 8192 := (okGap_lay ok).2.2.1
    have HTL := Aside0.mk hTl
    clear ok hgi hTl
    obtain ⟨T, HT⟩ : ∃ T, Aside0 (T = xs.take glo.toNat ++ xs.drop ghi.toNat) := ⟨_, ⟨rfl⟩⟩
    rw [← HT.out] at GI HTL
    simp only [gpt]
    go_wp2_with fail
    refine (gsize_any w1 _ b _ _ _ GI.out).mono ?_
    rintro e w2 ⟨rfl, hb2⟩
    have HB2 := Aside0.mk (below_step HB1.out hb2)
    have GI2 := Aside0.mk (GI.out.below hb2)
    clear hb2
    go_wp2_with fail
    by_cases cin : 0 ≤ lo ∧ lo ≤ hi ∧ hi ≤ (T.length : Int)
    · have hro := rangeOf_any w2 lo hi (T.length : Nat)
      rw [if_pos cin] at hro
      refine hro.mono ?_
      clear hro
      rintro e w' ⟨rfl, hw⟩
      rw [hw]
      clear hw w'
      simp only [ev]
      go_wp2_with fail
      refine (firstOf2 _ w2.heap.size none none (by simp [ev]) (by simp [ev])).mono ?_
      rintro e w' ⟨rfl, hw⟩
      rw [hw]
      clear hw w'
      simp only [ev, firstE]
      obtain ⟨w3, e3⟩ : ∃ y, w2.alloc (.cells #[.nilIface, .nilIface] 71) = y := ⟨_, rfl⟩
      have hb3 : Below w2.heap.size w2 w3 := by subst e3; exact (Below.refl _ w2).alloc (Nat.le_refl _) _
      have HB3 := Aside0.mk (below_step HB2.out hb3)
      have GI3 := Aside0.mk (GI2.out.below hb3)
      rw [e3]
      clear e3 hb3
      obtain ⟨lo', rfl⟩ : ∃ n : Nat, lo = n := ⟨lo.toNat, by omega⟩
      obtain ⟨hi', rfl⟩ : ∃ n : Nat, hi = n := ⟨hi.toNat, by omega⟩
      go_wp2_with fail
      refine (read_any w3 _ b _ _ _ lo' hi' GI3.out (by omega) (by omega)).mono ?_
      rintro e w4 ⟨v, rfl, hR, hb4⟩
      have CIN := Aside0.mk cin
      clear cin
      go_wp2
      refine bodyPost_ret (results_list (rs := [.tmp 6, .tmp 7]) rfl (by simp) (.tmp (.tmp .nil))) rfl ?_
      have e : gapReadV xs glo ghi lo' hi' = ((T.take hi').drop lo', 0) := by
        unfold gapReadV txt; rw [if_pos OK.out, ← HT.out, if_pos CIN.out]; rfl
      rw [e]
      exact ⟨v, rfl, Kd.R_lower hR HB3.out.size, below_step HB3.out hb4⟩
    · have hro := rangeOf_any w2 lo hi (T.length : Nat)
      rw [if_neg cin] at hro
      refine hro.mono ?_
      clear hro
      have CIN := Aside0.mk cin
      clear cin
      rintro e w' ⟨rfl, hw⟩
      rw [hw]
      clear hw w'
      simp only [ev]
      go_wp2_with fail
      refine (firstOf2 _ w2.heap.size none (some (111, .int .i64 2)) (by simp [ev]) (by simp [ev])).mono ?_
      rintro e w' ⟨rfl, hw⟩
      rw [hw]
      clear hw w'
      simp only [ev, firstE]
      obtain ⟨w3, e3⟩ : ∃ y, w2.alloc (.cells #[.nilIface, .iface 111 (.int .i64 2)] 71) = y := ⟨_, rfl⟩
      have HB3 : Aside0 (Below w.heap.size w w3) := ⟨by subst e3; exact HB2.out.alloc HB2.out.size _⟩
      rw [e3]
      clear e3
      go_wp2_with fail
      refine (codeOf_any _ 2 w3 (HG0.out.below HB3.out) (.inl rfl)).mono ?_
      rintro e w4 ⟨rfl, hb4⟩
      go_wp2
      refine bodyPost_ret (results_list (rs := [.tmp 6, .tmp 7]) rfl (by simp) (.tmp (.tmp .nil))) rfl ?_
      have e : gapReadV xs glo ghi lo hi = ([], 2) := by
        unfold gapReadV txt; rw [if_pos OK.out, ← HT.out, if_neg CIN.out]
      rw [e]
      exact ⟨_, rfl, Kd.R_nil _ _ _ _ _, below_step HB3.out hb4⟩
  · obtain ⟨T, x, rfl⟩ := errIs_ev hE
    have HE := Aside0.mk hE
    have NOK := Aside0.mk nok
    have GI := Aside0.mk hgi
    clear hE nok hgi
    simp only [ev, gpt]
    go_wp2_with fail
    refine (gsize_any w1 _ b _ _ _ GI.out).mono ?_
    rintro e w2 ⟨rfl, hb2⟩
    have HB2 := Aside0.mk (below_step HB1.out hb2)
    have HE2 := Aside0.mk (HE.out.below hb2)
    clear hb2
    simp only [List.length_nil]
    go_wp2_with fail
    refine (rangeOf_any w2 lo hi _).mono ?_
    rintro e w' ⟨rfl, hw⟩
    rw [hw]
    clear hw w'
    generalize (if 0 ≤ lo ∧ lo ≤ hi ∧ hi ≤ ((0 : Nat) : Int) then none else some (111, Value.int .i64 2) : EV) = E2
    have he2 : ∃ v2, ev E2 = v2 := ⟨_, rfl⟩
    obtain ⟨v2, he2⟩ := he2
    rw [he2]
    cases E2 with
    | none =>
      simp only [ev] at he2
      subst he2
      go_wp2_with fail
      refine (firstOf2 _ w2.heap.size (some (T, x)) none (by simp [ev]) (by simp [ev])).mono ?_
      rintro e w' ⟨rfl, hw⟩
      rw [hw]
      clear hw w'
      simp only [ev, firstE]
      obtain ⟨w3, e3⟩ : ∃ y, w2.alloc (.cells #[.iface T x, .nilIface] 71) = y := ⟨_, rfl⟩
      have hb3 : Below w2.heap.size w2 w3 := by subst e3; exact (Below.refl _ w2).alloc (Nat.le_refl _) _
      have HB3 := Aside0.mk (below_step HB2.out hb3)
      have HE3 := Aside0.mk (HE2.out.below hb3)
      rw [e3]
      clear e3 hb3
      go_wp2_with fail
      refine (codeOf_any _ 1 w3 (HG0.out.below HB3.out) HE3.out).mono ?_
      rintro e w4 ⟨rfl, hb4⟩
      go_wp2
      refine bodyPost_ret (results_list (rs := [.tmp 6, .tmp 7]) rfl (by simp) (.tmp (.tmp .nil))) rfl ?_
      have e : gapReadV xs glo ghi lo hi = ([], 1) := by unfold gapReadV; rw [if_neg NOK.out]
      rw [e]
      exact ⟨_, rfl, Kd.R_nil _ _ _ _ _, below_step HB3.out hb4⟩
    | some y =>
      obtain ⟨T2, x2⟩ := y
      simp only [ev] at he2
      subst he2
      go_wp2_with fail
      refine (firstOf2 _ w2.heap.size (some (T, x)) (some (T2, x2)) (by simp [ev]) (by simp [ev])).mono ?_
      rintro e w' ⟨rfl, hw⟩
      rw [hw]
      clear hw w'
      simp only [ev, firstE]
      obtain ⟨w3, e3⟩ : ∃ y, w2.alloc (.cells #[.iface T x, .iface T2 x2] 71) = y := ⟨_, rfl⟩
      have hb3 : Below w2.heap.size w2 w3 := by subst e3; exact (Below.refl _ w2).alloc (Nat.le_refl _) _
      have HB3 := Aside0.mk (below_step HB2.out hb3)
      have HE3 := Aside0.mk (HE2.out.below hb3)
      rw [e3]
      clear e3 hb3
      go_wp2_with fail
      refine (codeOf_any _ 1 w3 (HG0.out.below HB3.out) HE3.out).mono ?_
      rintro e w4 ⟨rfl, hb4⟩
      go_wp2
      refine bodyPost_ret (results_list (rs := [.tmp 6, .tmp 7]) rfl (by simp) (.tmp (.tmp .nil))) rfl ?_
      have e : gapReadV xs glo ghi lo hi = ([], 1) := by unfold gapReadV; rw [if_neg NOK.out]
      rw [e]
      exact ⟨_, rfl, Kd.R_nil _ _ _ _ _, below_step HB3.out hb4⟩
end Go.Proofs.YtlacoameobpfgaaDoor
