/- The law FnExactLineLineCol tells true: its body, walked along the true path (written by a program). Conditions: the ranges of the arguments' lengths; errors.errorType reads as laid. -/
import Derived.Test.YtamcacahjlaogaaDoorLt
import Derived.Test.YtamcacahjlaogaaDoorLi
import Derived.Test.YtamcacahjlaogaaDoorLu
namespace Go.Proofs.YtamcacahjlaogaaDoor.LP
open Go Go.RowKit Go.Proofs.YtamcacahjlaogaaDoor.Ln Go.Proofs.YtamcacahjlaogaaDoor.QBaseL Go.Proofs.YtamcacahjlaogaaDoorW.PrintWords Go.Proofs.YtamcacahjlaogaaDoorW.PrintLast Go.Proofs.YtamcacahjlaogaaDoorW.PrintMore Er
set_option linter.unusedSimpArgs false
set_option linter.unusedVariables false
set_option maxHeartbeats 16000000 in
set_option maxRecDepth 100000 in
theorem lawLineLineCol_any (w : World) (xs : List S75) (A0 : Option Addr) (c0 : Nat) (st : List Int) (A1 : Option Addr) (c1 : Nat) (off : Int) (h0 : k75.C w A0 xs.length xs) (hc0 : xs.length ≤ c0) (h1 : (Kd.int .i64).C w A1 st.length st) (hc1 : st.length ≤ c1)
  (hn : xs.length ≤ 9223372036854775807) (hm : ∀ x ∈ xs, x.f0.length ≤ 9223372036854775807) (hs : st.length ≤ 9223372036854775807) (hg : HG w) :
  Calls Tryd.prog 3 #[.agg #[.slice A0 xs.length c0, .slice A1 st.length c1], .int .i64 off] w fun e w' => e = .returned (.bool true) ∧ Below w.heap.size w w' := by
 obtain ⟨w0, ea⟩ : ∃ y, w.alloc (.cells #[.slice A0 xs.length c0, .slice A1 st.length c1] 25) = y := ⟨_, rfl⟩
 have HB := Aside0.mk (show Below w.heap.size w w0 by subst ea; exact (Below.refl _ w).alloc (Nat.le_refl _) _)
 have Ba := Aside0.mk (show w0.heap[w.heap.size]? = some (.cells #[.slice A0 xs.length c0, .slice A1 st.length c1] 25 (0, 0)) by subst ea; exact blk_new w (.cells #[.slice A0 xs.length c0, .slice A1 st.length c1] 25))
 have BL0 := Aside0.mk (blk_lt Ba.out)
 have H0 := Aside0.mk h0
 have H1 := Aside0.mk h1
 have HG0 := Aside0.mk hg
 obtain ⟨gs, HGS⟩ : ∃ z, Aside0 (xs.map cvG = z) := ⟨_, ⟨rfl⟩⟩
 clear h0 h1 hg
 go_enter Tryd.func3, Tryd.ntmps3
 have qa0 : w0.cell? ⟨w.heap.size, 0, none⟩ = some (.slice A0 xs.length c0) := (blk_cell Ba.out 0).trans rfl
 have qa1 : w0.cell? ⟨w.heap.size, 1, none⟩ = some (.slice A1 st.length c1) := (blk_cell Ba.out 1).trans rfl
 go_wp2_with fail
 refine (szLineBuf_any w0 A0 c0 xs A1 c1 st (Kd.C_below H0.out HB.out) hc0 (Kd.C_below H1.out HB.out) hc1 hn hm hs).mono ?_
 rintro e w1 ⟨v, rfl, hv, hb⟩
 clear qa0 qa1
 have HV := Aside0.mk hv
 clear hv
 have n0_ := Aside0.mk (below_step HB.out hb)
 have n1_ := Aside0.mk (blk_below Ba.out hb)
 clear HB
 clear Ba
 have HB := n0_
 have Ba := n1_
 clear n0_ n1_
 have Zw1 := Aside0.mk (hb.size)
 clear hb
 by_cases cv : v < 0
 ·go_wp2
  go_ret
  exact ⟨rfl, HB.out⟩
 have HSZ := Aside0.mk (HV.out.2.2 (by omega))
 have HGB := Aside0.mk (show gs.length ≤ 1048576 ∧ szS gs ≤ 5000000 ∧ st.length ≤ 2000000 by
  have h1 := HSZ.out
  have h2 := szS_cv xs
  have h3 : gs.length = xs.length := by rw [← HGS.out, List.length_map]
  rw [HGS.out] at h2
  omega)
 have HGZ := Aside0.mk (show ∀ i, i < gs.length → (rdG gs i).f0.length ≤ 1048576 from fun i hi => by
  have h1 := HSZ.out
  have h2 := rdG_cv xs i (by rw [HGS.out]; exact hi)
  rw [HGS.out] at h2
  omega)
 have qa0 : w1.cell? ⟨w.heap.size, 0, none⟩ = some (.slice A0 xs.length c0) := (blk_cell Ba.out 0).trans rfl
 have qa1 : w1.cell? ⟨w.heap.size, 1, none⟩ = some (.slice A1 st.length c1) := (blk_cell Ba.out 1).trans rfl
 go_wp2_with fail
 refine (toLineBuf_any w1 A0 c0 xs A1 c1 st (Kd.C_below H0.out HB.out) hc0 (Kd.C_below H1.out HB.out) hc1 HSZ.out).mono ?_
 rintro e w2 ⟨u0, u1, rfl, hlb, hb⟩
 clear qa0 qa1
 rw [HGS.out] at hlb
 obtain ⟨U0, d0, U1, d1, rfl, rfl, -, -, -, -⟩ := hlb.form
 have LBu := Aside0.mk hlb
 clear hlb
 have n0_ := Aside0.mk (below_step HB.out hb)
 have n1_ := Aside0.mk (blk_below Ba.out hb)
 clear HB
 clear Ba
 have HB := n0_
 have Ba := n1_
 clear n0_ n1_
 have Zw2 := Aside0.mk (hb.size)
 clear hb
 go_wp2_with fail
 refine (specLineCol_any w2 gs U0 d0 st U1 d1 off (Kd.S_reads' LBu.out.1).2.2 (Kd.S_reads' LBu.out.1).2.1 (Kd.R_reads' LBu.out.2).2.2 (Kd.R_reads' LBu.out.2).2.1).mono ?_
 rintro e w3 ⟨xs', st', ra, rb, rc, hres, v0, v1, rfl, hlb, hb⟩
 obtain ⟨W0, e0, W1, e1, rfl, rfl, -, -, -, -⟩ := hlb.form
 have HRES := Aside0.mk hres
 have BND := Aside0.mk (LcRes.bound hres HGB.out.1 HGB.out.2.1)
 have LBw := Aside0.mk hlb.bound
 clear hres hlb LBu
 have n0_ := Aside0.mk (below_step HB.out hb)
 have n1_ := Aside0.mk (blk_below Ba.out hb)
 clear HB
 clear Ba
 have HB := n0_
 have Ba := n1_
 clear n0_ n1_
 have Zw3 := Aside0.mk (hb.size)
 clear hb
 go_wp2_with (first | ((with_reducible refine gate_dst (N := 6) rfl ?_); refine box_event ?hg (N := 6) ?hd (cs := #[.slice none 0 0, .slice none 0 0]) (t := 29) ?hr ?_; (case hd => rfl); (case hg => rfl); (case hr => first | (go_simp; done) | (go_simp; rfl)); intro bw hbo w4 hbox hb; have BK := Aside0.mk hbox; have BW := Aside0.mk hb; have Ew := Aside0.mk hbo; have LE := Aside0.mk (by rw [hbo]; exact Nat.le_refl _ : w3.heap.size ≤ bw); have a0 : w4.cell? ⟨bw, 0, none⟩ = some (.slice none 0 0) := (blk_cell hbox 0).trans rfl; have a1 : w4.cell? ⟨bw, 1, none⟩ = some (.slice none 0 0) := (blk_cell hbox 1).trans rfl; have f0 := blk_frozen hbox 0; have f1 := blk_frozen hbox 1; clear hb hbox hbo) | ((with_reducible refine gate_store (t := 29) (p := 6) rfl ?_); refine store_event (t := 29) (p := 6) (v := ?vo_w5) (w1 := (w4.setCell ⟨bw, 0, none⟩ (.slice W0 xs'.length e0)).setCell ⟨bw, 1, none⟩ (.slice W1 st'.length e1)) ?hg ?ho ?hn ?hr ?_; (case ho => rfl); (case hg => rfl); (case hn => rfl); (case hr => first | (go_simp; done) | (go_simp; rfl)); intro w5 e5; have h5 : Below w3.heap.size w3 w5 := (by rw [e5]; exact below_set (below_set BW.out LE.out) LE.out); have Bw := Aside0.mk (show w5.heap[bw]? = some (.cells #[.slice W0 xs'.length e0, .slice W1 st'.length e1] 29 (0, 0)) by rw [e5]; exact blk_put (blk_put BK.out 0 _ rfl) 1 _ rfl); clear e5 a0 a1 f0 f1 BK BW LE; have LTw := Aside0.mk (blk_lt Bw.out); have n0_ := Aside0.mk (below_step HB.out h5); have n1_ := Aside0.mk (blk_below Ba.out h5); have n2_ := Aside0.mk (LBw.out.below h5); clear HB; clear Ba; clear LBw; have HB := n0_; have Ba := n1_; have LBw := n2_; clear n0_ n1_ n2_; have Zw5 := Aside0.mk (h5.size); clear h5; have qa0 : w5.cell? ⟨w.heap.size, 0, none⟩ = some (.slice A0 xs.length c0) := (blk_cell Ba.out 0).trans rfl; have qa1 : w5.cell? ⟨w.heap.size, 1, none⟩ = some (.slice A1 st.length c1) := (blk_cell Ba.out 1).trans rfl))
 have HBwx := Aside0.mk HB.out
 refine (toLineBuf_any w5 A0 c0 xs A1 c1 st (Kd.C_below H0.out HB.out) hc0 (Kd.C_below H1.out HB.out) hc1 HSZ.out).mono ?_
 rintro e w6 ⟨u0, u1, rfl, hlb, hb⟩
 clear qa0 qa1
 rw [HGS.out] at hlb
 obtain ⟨X0, k0, X1, k1, rfl, rfl, -, -, -, -⟩ := hlb.form
 have LBx := Aside0.mk hlb.bound
 have HBx := Aside0.mk hb
 clear hlb
 have n0_ := Aside0.mk (below_step HB.out hb)
 have n1_ := Aside0.mk (blk_below Ba.out hb)
 have n2_ := Aside0.mk (LBw.out.below hb)
 have n3_ := Aside0.mk (blk_below Bw.out hb)
 clear HB
 clear Ba
 clear LBw
 clear Bw
 have HB := n0_
 have Ba := n1_
 have LBw := n2_
 have Bw := n3_
 clear n0_ n1_ n2_ n3_
 have Zw6 := Aside0.mk (hb.size)
 clear hb
 go_wp2_with (first | ((with_reducible refine gate_dst (N := 10) rfl ?_); refine box_event ?hg (N := 10) ?hd (cs := #[.slice none 0 0, .slice none 0 0]) (t := 29) ?hr ?_; (case hd => rfl); (case hg => rfl); (case hr => first | (go_simp; done) | (go_simp; rfl)); intro bx hbo w7 hbox hb; have BK := Aside0.mk hbox; have BW := Aside0.mk hb; have Ex := Aside0.mk hbo; have LE := Aside0.mk (by rw [hbo]; exact Nat.le_refl _ : w6.heap.size ≤ bx); have a0 : w7.cell? ⟨bx, 0, none⟩ = some (.slice none 0 0) := (blk_cell hbox 0).trans rfl; have a1 : w7.cell? ⟨bx, 1, none⟩ = some (.slice none 0 0) := (blk_cell hbox 1).trans rfl; have f0 := blk_frozen hbox 0; have f1 := blk_frozen hbox 1; clear hb hbox hbo) | ((with_reducible refine gate_store (t := 29) (p := 10) rfl ?_); refine store_event (t := 29) (p := 10) (v := ?vo_w8) (w1 := (w7.setCell ⟨bx, 0, none⟩ (.slice X0 gs.length k0)).setCell ⟨bx, 1, none⟩ (.slice X1 st.length k1)) ?hg ?ho ?hn ?hr ?_; (case ho => rfl); (case hg => rfl); (case hn => rfl); (case hr => first | (go_simp; done) | (go_simp; rfl)); intro w8 e5; have h5 : Below w6.heap.size w6 w8 := (by rw [e5]; exact below_set (below_set BW.out LE.out) LE.out); have Bx := Aside0.mk (show w8.heap[bx]? = some (.cells #[.slice X0 gs.length k0, .slice X1 st.length k1] 29 (0, 0)) by rw [e5]; exact blk_put (blk_put BK.out 0 _ rfl) 1 _ rfl); clear e5 a0 a1 f0 f1 BK BW LE; have LTx := Aside0.mk (blk_lt Bx.out); have n0_ := Aside0.mk (below_step HB.out h5); have n1_ := Aside0.mk (blk_below Ba.out h5); have n2_ := Aside0.mk (LBw.out.below h5); have n3_ := Aside0.mk (blk_below Bw.out h5); have n4_ := Aside0.mk (LBx.out.below h5); have n5_ := Aside0.mk (below_step HBx.out h5); clear HB; clear Ba; clear LBw; clear Bw; clear LBx; clear HBx; have HB := n0_; have Ba := n1_; have LBw := n2_; have Bw := n3_; have LBx := n4_; have HBx := n5_; clear n0_ n1_ n2_ n3_ n4_ n5_; have Zw8 := Aside0.mk (h5.size); clear h5; have qx0 : w8.cell? ⟨bx, 0, none⟩ = some (.slice X0 gs.length k0) := (blk_cell Bx.out 0).trans rfl; have qx1 : w8.cell? ⟨bx, 1, none⟩ = some (.slice X1 st.length k1) := (blk_cell Bx.out 1).trans rfl))
 refine (lineLineCol_any w8 gs X0 k0 st X1 k1 off (Kd.S_reads' LBx.out.1).2.2 (Kd.S_reads' LBx.out.1).2.1 (Kd.R_reads' LBx.out.2).2.2 (Kd.R_reads' LBx.out.2).2.1 HGB.out.1 (by have := HSZ.out; omega) HGZ.out (HG0.out.below HB.out)).mono ?_
 rintro e w9 ⟨ys, st2, ra2, rb2, rc2, hres2, v0, v1, rfl, hlb, hb⟩
 clear qx0 qx1
 obtain ⟨rfl, rfl, rfl, rfl, rfl⟩ := HRES.out.unique hres2
 clear hres2
 obtain ⟨G0, m0, G1, m1, rfl, rfl, -, -, -, -⟩ := hlb.form
 have LBg := Aside0.mk hlb.bound
 clear hlb
 have n0_ := Aside0.mk (below_step HB.out hb)
 have n1_ := Aside0.mk (blk_below Ba.out hb)
 have n2_ := Aside0.mk (LBw.out.below hb)
 have n3_ := Aside0.mk (blk_below Bw.out hb)
 have n4_ := Aside0.mk (LBx.out.below hb)
 have n5_ := Aside0.mk (below_step HBx.out hb)
 have n6_ := Aside0.mk (blk_below Bx.out hb)
 clear HB
 clear Ba
 clear LBw
 clear Bw
 clear LBx
 clear HBx
 clear Bx
 have HB := n0_
 have Ba := n1_
 have LBw := n2_
 have Bw := n3_
 have LBx := n4_
 have HBx := n5_
 have Bx := n6_
 clear n0_ n1_ n2_ n3_ n4_ n5_ n6_
 have Zw9 := Aside0.mk (hb.size)
 clear hb
 go_wp2_with (first | ((with_reducible refine gate_dst (N := 11) rfl ?_); refine box_event ?hg (N := 11) ?hd (cs := #[.slice none 0 0, .slice none 0 0]) (t := 29) ?hr ?_; (case hd => rfl); (case hg => rfl); (case hr => first | (go_simp; done) | (go_simp; rfl)); intro bg hbo w10 hbox hb; have BK := Aside0.mk hbox; have BW := Aside0.mk hb; have Eg := Aside0.mk hbo; have LE := Aside0.mk (by rw [hbo]; exact Nat.le_refl _ : w9.heap.size ≤ bg); have a0 : w10.cell? ⟨bg, 0, none⟩ = some (.slice none 0 0) := (blk_cell hbox 0).trans rfl; have a1 : w10.cell? ⟨bg, 1, none⟩ = some (.slice none 0 0) := (blk_cell hbox 1).trans rfl; have f0 := blk_frozen hbox 0; have f1 := blk_frozen hbox 1; clear hb hbox hbo) | ((with_reducible refine gate_store (t := 29) (p := 11) rfl ?_); refine store_event (t := 29) (p := 11) (v := ?vo_w11) (w1 := (w10.setCell ⟨bg, 0, none⟩ (.slice G0 xs'.length m0)).setCell ⟨bg, 1, none⟩ (.slice G1 st'.length m1)) ?hg ?ho ?hn ?hr ?_; (case ho => rfl); (case hg => rfl); (case hn => rfl); (case hr => first | (go_simp; done) | (go_simp; rfl)); intro w11 e5; have h5 : Below w9.heap.size w9 w11 := (by rw [e5]; exact below_set (below_set BW.out LE.out) LE.out); have Bg := Aside0.mk (show w11.heap[bg]? = some (.cells #[.slice G0 xs'.length m0, .slice G1 st'.length m1] 29 (0, 0)) by rw [e5]; exact blk_put (blk_put BK.out 0 _ rfl) 1 _ rfl); clear e5 a0 a1 f0 f1 BK BW LE; have LTg := Aside0.mk (blk_lt Bg.out); have n0_ := Aside0.mk (below_step HB.out h5); have n1_ := Aside0.mk (blk_below Ba.out h5); have n2_ := Aside0.mk (LBw.out.below h5); have n3_ := Aside0.mk (blk_below Bw.out h5); have n4_ := Aside0.mk (LBx.out.below h5); have n5_ := Aside0.mk (below_step HBx.out h5); have n6_ := Aside0.mk (blk_below Bx.out h5); have n7_ := Aside0.mk (LBg.out.below h5); clear HB; clear Ba; clear LBw; clear Bw; clear LBx; clear HBx; clear Bx; clear LBg; have HB := n0_; have Ba := n1_; have LBw := n2_; have Bw := n3_; have LBx := n4_; have HBx := n5_; have Bx := n6_; have LBg := n7_; clear n0_ n1_ n2_ n3_ n4_ n5_ n6_ n7_; have Zw11 := Aside0.mk (h5.size); clear h5; have qg0 : w11.cell? ⟨bg, 0, none⟩ = some (.slice G0 xs'.length m0) := (blk_cell Bg.out 0).trans rfl; have qg1 : w11.cell? ⟨bg, 1, none⟩ = some (.slice G1 st'.length m1) := (blk_cell Bg.out 1).trans rfl; have qw0 : w11.cell? ⟨bw, 0, none⟩ = some (.slice W0 xs'.length e0) := (blk_cell Bw.out 0).trans rfl; have qw1 : w11.cell? ⟨bw, 1, none⟩ = some (.slice W1 st'.length e1) := (blk_cell Bw.out 1).trans rfl))
 refine (eqLineBuf_any w11 _ _ _ _ _ _ _ _ xs' st' LBg.out LBw.out (BND.out.1) (BND.out.2.1) (BND.out.2.2)).mono ?_
 rintro e w12 ⟨rfl, hb⟩
 clear qg0 qg1 qw0 qw1
 have n0_ := Aside0.mk (below_step HB.out hb)
 have n1_ := Aside0.mk (blk_below Ba.out hb)
 have n2_ := Aside0.mk (LBw.out.below hb)
 have n3_ := Aside0.mk (blk_below Bw.out hb)
 have n4_ := Aside0.mk (LBx.out.below hb)
 have n5_ := Aside0.mk (below_step HBx.out hb)
 have n6_ := Aside0.mk (blk_below Bx.out hb)
 have n7_ := Aside0.mk (LBg.out.below hb)
 have n8_ := Aside0.mk (blk_below Bg.out hb)
 clear HB
 clear Ba
 clear LBw
 clear Bw
 clear LBx
 clear HBx
 clear Bx
 clear LBg
 clear Bg
 have HB := n0_
 have Ba := n1_
 have LBw := n2_
 have Bw := n3_
 have LBx := n4_
 have HBx := n5_
 have Bx := n6_
 have LBg := n7_
 have Bg := n8_
 clear n0_ n1_ n2_ n3_ n4_ n5_ n6_ n7_ n8_
 have Zw12 := Aside0.mk (hb.size)
 clear hb
 obtain ⟨w13, ed⟩ : ∃ z, w12.drew = z := ⟨_, rfl⟩
 have hb : Below w12.heap.size w12 w13 := by rw [← ed]; exact (Below.refl _ w12).drew
 go_wp2
 have n0_ := Aside0.mk (below_step HB.out hb)
 have n1_ := Aside0.mk (blk_below Ba.out hb)
 have n2_ := Aside0.mk (LBw.out.below hb)
 have n3_ := Aside0.mk (blk_below Bw.out hb)
 have n4_ := Aside0.mk (LBx.out.below hb)
 have n5_ := Aside0.mk (below_step HBx.out hb)
 have n6_ := Aside0.mk (blk_below Bx.out hb)
 have n7_ := Aside0.mk (LBg.out.below hb)
 have n8_ := Aside0.mk (blk_below Bg.out hb)
 clear HB
 clear Ba
 clear LBw
 clear Bw
 clear LBx
 clear HBx
 clear Bx
 clear LBg
 clear Bg
 have HB := n0_
 have Ba := n1_
 have LBw := n2_
 have Bw := n3_
 have LBx := n4_
 have HBx := n5_
 have Bx := n6_
 have LBg := n7_
 have Bg := n8_
 clear n0_ n1_ n2_ n3_ n4_ n5_ n6_ n7_ n8_
 have Zw13 := Aside0.mk (hb.size)
 clear hb
 refine start_ (n := 5) (S := fun w' => w'.cell? ⟨bx, 0, none⟩ = some (.slice X0 gs.length k0) ∧ w'.cell? ⟨bx, 1, none⟩ = some (.slice X1 st.length k1) ∧ w'.cell? ⟨w.heap.size, 0, none⟩ = some (.slice A0 xs.length c0) ∧ w'.cell? ⟨w.heap.size, 1, none⟩ = some (.slice A1 st.length c1) ∧ Below w13.heap.size w13 w') (ds := []) #[false, false, false, false, false] (by kernel_rfl) rfl rfl ⟨(by rw [ed]; exact (blk_cell Bx.out 0).trans rfl), (by rw [ed]; exact (blk_cell Bx.out 1).trans rfl), (by rw [ed]; exact (blk_cell Ba.out 0).trans rfl), (by rw [ed]; exact (blk_cell Ba.out 1).trans rfl), (by rw [ed]; exact (Below.refl _ _))⟩ (fun hHeld => ?_)
 rw [ed] at hHeld ⊢
 clear ed
 refine take_ (i := 0) (N := some 65) (v := ?_) (a' := ?_) #[true, false, false, false, false] rfl rfl (by kernel_rfl) (fun _ _ _ h => h) (Or.inl ⟨by rfl, ?_⟩) hHeld ?_ ?_
 rotate_left
 ·rintro w' ⟨s0, s1, s2, s3, s4⟩
  go_simp
  with_reducible rfl
 rotate_left
 ·simp only [Act.put, List.setIfInBounds_toArray, List.set_cons_zero, List.set_cons_succ, i64_w, i32_w]
  rfl
 refine take_ (i := 1) (N := some 66) (v := ?_) (a' := ?_) #[true, true, false, false, false] rfl rfl (by kernel_rfl) (fun _ _ _ h => h) (Or.inl ⟨by rfl, ?_⟩) hHeld ?_ ?_
 rotate_left
 ·rintro w' ⟨s0, s1, s2, s3, s4⟩
  go_simp
  with_reducible rfl
 rotate_left
 ·simp only [Act.put, List.setIfInBounds_toArray, List.set_cons_zero, List.set_cons_succ, i64_w, i32_w]
  rfl
 refine one_ (i := 2) (N := some 67) #[true, true, true, false, false] rfl rfl (by kernel_rfl) (by decide) (fun K hK => ?_)
 refine goes_ Tryd.func8 (by kernel_rfl) rfl #[.agg #[.slice A0 xs.length c0, .slice A1 st.length c1]] (by rfl) rfl rfl (by simp only [List.map_toArray, List.map_cons, List.map_nil]; rfl) ?_
 with_reducible refine (toLineBuf_any _ A0 c0 xs A1 c1 st (Kd.C_below H0.out (HB.out.trans (Below.mono hHeld.2.2.2.2 HB.out.size))) hc0 (Kd.C_below H1.out (HB.out.trans (Below.mono hHeld.2.2.2.2 HB.out.size))) hc1 HSZ.out).mono ?_
 rintro e w14 ⟨u0, u1, rfl, hlb, hb⟩
 refine ⟨_, rfl, ?_⟩
 rw [HGS.out] at hlb
 obtain ⟨T0_, p0, T1_, p1, rfl, rfl, -, -, -, -⟩ := hlb.form
 have LBt := Aside0.mk hlb
 have hbt := below_step hHeld.2.2.2.2 hb
 clear hb hlb
 refine hK.out _ _ ⟨(blk_cell (blk_below Bx.out hbt) 0).trans rfl, (blk_cell (blk_below Bx.out hbt) 1).trans rfl, (blk_cell (blk_below Ba.out hbt) 0).trans rfl, (blk_cell (blk_below Ba.out hbt) 1).trans rfl, hbt⟩ (fun hHeld => ?_)
 clear hK K
 refine norm_ (a' := ?_) ?_ ?_
 rotate_left
 ·show Act.put _ (some 67) _ = _
  simp only [Act.put, List.setIfInBounds_toArray, List.set_cons_zero, List.set_cons_succ, i64_w, i32_w]
  rfl
 refine one_ (i := 3) (N := some 68) #[true, true, true, true, false] rfl rfl (by kernel_rfl) (by decide) (fun K hK => ?_)
 refine goes_ Tryd.func10 (by kernel_rfl) rfl #[.agg #[.slice X0 gs.length k0, .slice X1 st.length k1], .agg #[.slice T0_ gs.length p0, .slice T1_ st.length p1]] (by rfl) rfl rfl (by simp only [List.map_toArray, List.map_cons, List.map_nil]; rfl) ?_
 with_reducible refine (eqLineBuf_any _ _ _ _ _ _ _ _ _ gs st (LBx.out.below hHeld.2.2.2.2) LBt.out HGB.out.1 HGB.out.2.1 HGB.out.2.2).mono ?_
 rintro e w15 ⟨rfl, hb⟩
 refine ⟨_, rfl, ?_⟩
 have hbe := below_step hHeld.2.2.2.2 hb
 clear hb
 refine hK.out _ _ ⟨(blk_cell (blk_below Bx.out hbe) 0).trans rfl, (blk_cell (blk_below Bx.out hbe) 1).trans rfl, (blk_cell (blk_below Ba.out hbe) 0).trans rfl, (blk_cell (blk_below Ba.out hbe) 1).trans rfl, hbe⟩ (fun hHeld => ?_)
 clear hK K
 refine norm_ (a' := ?_) ?_ ?_
 rotate_left
 ·show Act.put _ (some 68) _ = _
  simp only [Act.put, List.setIfInBounds_toArray, List.set_cons_zero, List.set_cons_succ, i64_w, i32_w]
  rfl
 refine pure_ (i := 4) (N := some 69) (v := ?_) (a' := ?_) #[true, true, true, true, true] rfl rfl (by kernel_rfl) (fun _ _ _ h => h) (Or.inl ⟨by rfl, ?_⟩) ?_ ?_
 rotate_left
 ·intro w'
  go_simp
  with_reducible rfl
 rotate_left
 ·simp only [Act.put, List.setIfInBounds_toArray, List.set_cons_zero, List.set_cons_succ, i64_w, i32_w]
  rfl
 refine done_ (by kernel_rfl) ?_
 have hb := hHeld.2.2.2.2
 clear hHeld
 have n0_ := Aside0.mk (below_step HB.out hb)
 have n1_ := Aside0.mk (blk_below Ba.out hb)
 have n2_ := Aside0.mk (LBw.out.below hb)
 have n3_ := Aside0.mk (blk_below Bw.out hb)
 have n4_ := Aside0.mk (LBx.out.below hb)
 have n5_ := Aside0.mk (below_step HBx.out hb)
 have n6_ := Aside0.mk (blk_below Bx.out hb)
 have n7_ := Aside0.mk (LBg.out.below hb)
 have n8_ := Aside0.mk (blk_below Bg.out hb)
 clear HB
 clear Ba
 clear LBw
 clear Bw
 clear LBx
 clear HBx
 clear Bx
 clear LBg
 clear Bg
 have HB := n0_
 have Ba := n1_
 have LBw := n2_
 have Bw := n3_
 have LBx := n4_
 have HBx := n5_
 have Bx := n6_
 have LBg := n7_
 have Bg := n8_
 clear n0_ n1_ n2_ n3_ n4_ n5_ n6_ n7_ n8_
 have Zw15 := Aside0.mk (hb.size)
 clear hb
 have SZS := Aside0.mk (show w.heap.size < w0.heap.size ∧ w0.heap.size ≤ w1.heap.size ∧ w1.heap.size ≤ w2.heap.size ∧ w2.heap.size ≤ w3.heap.size ∧ w3.heap.size ≤ w5.heap.size ∧ w5.heap.size ≤ w6.heap.size ∧ w6.heap.size ≤ w8.heap.size ∧ w8.heap.size ≤ w9.heap.size from ⟨BL0.out, Zw1.out, Zw2.out, Zw3.out, Zw5.out, Zw6.out, Zw8.out, Zw9.out⟩)
 have qx0 : w15.cell? ⟨bx, 0, none⟩ = some (.slice X0 gs.length k0) := (blk_cell Bx.out 0).trans rfl
 have qx1 : w15.cell? ⟨bx, 1, none⟩ = some (.slice X1 st.length k1) := (blk_cell Bx.out 1).trans rfl
 go_wp2_with fail
 refine (markLineBuf_any w5 w15 _ _ _ gs st HBx.out LBx.out HGB.out.1 HGB.out.2.1 HGB.out.2.2).mono ?_
 rintro e w16 ⟨rfl, hlb, hbx, hk⟩
 clear qx0 qx1
 have n0_ := Aside0.mk (blk_kept Ba.out hk (fun h2 => by have := SZS.out; have := Ew.out; have := LTw.out; have := Ex.out; have := LTx.out; have := Eg.out; have := LTg.out;  omega))
 have n1_ := Aside0.mk (LBw.out.kept hk (fun k h1 h2 => by have := SZS.out; omega))
 have n2_ := Aside0.mk (blk_kept Bw.out hk (fun h2 => by have := SZS.out; have := Ew.out; have := LTw.out; have := Ex.out; have := LTx.out; have := Eg.out; have := LTg.out;  omega))
 have n3_ := Aside0.mk (blk_kept Bx.out hk (fun h2 => by have := SZS.out; have := Ew.out; have := LTw.out; have := Ex.out; have := LTx.out; have := Eg.out; have := LTg.out;  omega))
 have n4_ := Aside0.mk (LBg.out.kept hk (fun k h1 h2 => by have := SZS.out; omega))
 have n5_ := Aside0.mk (blk_kept Bg.out hk (fun h2 => by have := SZS.out; have := Ew.out; have := LTw.out; have := Ex.out; have := LTx.out; have := Eg.out; have := LTg.out;  omega))
 clear Ba
 clear LBw
 clear Bw
 clear Bx
 clear LBg
 clear Bg
 have Ba := n0_
 have LBw := n1_
 have Bw := n2_
 have Bx := n3_
 have LBg := n4_
 have Bg := n5_
 clear n0_ n1_ n2_ n3_ n4_ n5_
 clear LBx HB HBx
 have HBx := Aside0.mk hbx
 have HB := Aside0.mk (below_step HBwx.out hbx)
 clear hlb hbx hk
 obtain ⟨kx, HKX⟩ : ∃ z, Aside0 (1 + szS gs + (st.length : Int) = z) := ⟨_, ⟨rfl⟩⟩
 have hkx : 0 ≤ kx := by rw [← HKX.out]; have := szS_nn gs; omega
 rw [HKX.out]
 have qg0 : w16.cell? ⟨bg, 0, none⟩ = some (.slice G0 xs'.length m0) := (blk_cell Bg.out 0).trans rfl
 have qg1 : w16.cell? ⟨bg, 1, none⟩ = some (.slice G1 st'.length m1) := (blk_cell Bg.out 1).trans rfl
 have qw0 : w16.cell? ⟨bw, 0, none⟩ = some (.slice W0 xs'.length e0) := (blk_cell Bw.out 0).trans rfl
 have qw1 : w16.cell? ⟨bw, 1, none⟩ = some (.slice W1 st'.length e1) := (blk_cell Bw.out 1).trans rfl
 go_wp2_with fail
 refine (eqLineBuf_any w16 _ _ _ _ _ _ _ _ xs' st' LBg.out LBw.out (BND.out.1) (BND.out.2.1) (BND.out.2.2)).mono ?_
 rintro e w17 ⟨rfl, hb⟩
 clear qg0 qg1 qw0 qw1
 have n0_ := Aside0.mk (below_step HB.out hb)
 have n1_ := Aside0.mk (blk_below Ba.out hb)
 have n2_ := Aside0.mk (LBw.out.below hb)
 have n3_ := Aside0.mk (blk_below Bw.out hb)
 have n4_ := Aside0.mk (below_step HBx.out hb)
 have n5_ := Aside0.mk (blk_below Bx.out hb)
 have n6_ := Aside0.mk (LBg.out.below hb)
 have n7_ := Aside0.mk (blk_below Bg.out hb)
 clear HB
 clear Ba
 clear LBw
 clear Bw
 clear HBx
 clear Bx
 clear LBg
 clear Bg
 have HB := n0_
 have Ba := n1_
 have LBw := n2_
 have Bw := n3_
 have HBx := n4_
 have Bx := n5_
 have LBg := n6_
 have Bg := n7_
 clear n0_ n1_ n2_ n3_ n4_ n5_ n6_ n7_
 have Zw17 := Aside0.mk (hb.size)
 clear hb
 have qg0 : w17.cell? ⟨bg, 0, none⟩ = some (.slice G0 xs'.length m0) := (blk_cell Bg.out 0).trans rfl
 have qg1 : w17.cell? ⟨bg, 1, none⟩ = some (.slice G1 st'.length m1) := (blk_cell Bg.out 1).trans rfl
 go_wp2_with fail
 refine (markLineBuf_any w5 w17 _ _ _ xs' st' HBx.out ⟨Kd.S_lower LBg.out.1 (show w5.heap.size ≤ w8.heap.size by have := SZS.out; omega), Kd.R_lower LBg.out.2 (show w5.heap.size ≤ w8.heap.size by have := SZS.out; omega)⟩ (BND.out.1) (BND.out.2.1) (BND.out.2.2)).mono ?_
 rintro e w18 ⟨rfl, hlb, hbx, hk⟩
 clear qg0 qg1
 have n0_ := Aside0.mk (blk_kept Ba.out hk (fun h2 => by have := SZS.out; have := Ew.out; have := LTw.out; have := Ex.out; have := LTx.out; have := Eg.out; have := LTg.out;  omega))
 have n1_ := Aside0.mk (LBw.out.kept hk (fun k h1 h2 => by have := SZS.out; omega))
 have n2_ := Aside0.mk (blk_kept Bw.out hk (fun h2 => by have := SZS.out; have := Ew.out; have := LTw.out; have := Ex.out; have := LTx.out; have := Eg.out; have := LTg.out;  omega))
 have n3_ := Aside0.mk (blk_kept Bx.out hk (fun h2 => by have := SZS.out; have := Ew.out; have := LTw.out; have := Ex.out; have := LTx.out; have := Eg.out; have := LTg.out;  omega))
 have n4_ := Aside0.mk (blk_kept Bg.out hk (fun h2 => by have := SZS.out; have := Ew.out; have := LTw.out; have := Ex.out; have := LTx.out; have := Eg.out; have := LTg.out;  omega))
 clear Ba
 clear LBw
 clear Bw
 clear Bx
 clear Bg
 have Ba := n0_
 have LBw := n1_
 have Bw := n2_
 have Bx := n3_
 have Bg := n4_
 clear n0_ n1_ n2_ n3_ n4_
 clear LBg HB HBx
 have HBx := Aside0.mk hbx
 have HB := Aside0.mk (below_step HBwx.out hbx)
 have LBg := Aside0.mk hlb
 clear hlb hbx hk
 obtain ⟨kg, HKG⟩ : ∃ z, Aside0 (1 + szS xs' + (st'.length : Int) = z) := ⟨_, ⟨rfl⟩⟩
 have hkg : 0 ≤ kg := by rw [← HKG.out]; have := szS_nn xs'; omega
 rw [HKG.out]
 have qg0 : w18.cell? ⟨bg, 0, none⟩ = some (.slice G0 xs'.length m0) := (blk_cell Bg.out 0).trans rfl
 have qg1 : w18.cell? ⟨bg, 1, none⟩ = some (.slice G1 st'.length m1) := (blk_cell Bg.out 1).trans rfl
 go_wp2_with fail
 refine (heldLineBuf_any w18 _ _ _ _ xs' st' LBg.out (BND.out.1) (BND.out.2.1) (BND.out.2.2)).mono ?_
 rintro e w19 ⟨rfl, hb⟩
 clear qg0 qg1
 rw [HKG.out]
 have n0_ := Aside0.mk (below_step HB.out hb)
 have n1_ := Aside0.mk (blk_below Ba.out hb)
 have n2_ := Aside0.mk (LBw.out.below hb)
 have n3_ := Aside0.mk (blk_below Bw.out hb)
 have n4_ := Aside0.mk (below_step HBx.out hb)
 have n5_ := Aside0.mk (blk_below Bx.out hb)
 have n6_ := Aside0.mk (LBg.out.below hb)
 have n7_ := Aside0.mk (blk_below Bg.out hb)
 clear HB
 clear Ba
 clear LBw
 clear Bw
 clear HBx
 clear Bx
 clear LBg
 clear Bg
 have HB := n0_
 have Ba := n1_
 have LBw := n2_
 have Bw := n3_
 have HBx := n4_
 have Bx := n5_
 have LBg := n6_
 have Bg := n7_
 clear n0_ n1_ n2_ n3_ n4_ n5_ n6_ n7_
 have Zw19 := Aside0.mk (hb.size)
 clear hb
 have qa0 : w19.cell? ⟨w.heap.size, 0, none⟩ = some (.slice A0 xs.length c0) := (blk_cell Ba.out 0).trans rfl
 have qa1 : w19.cell? ⟨w.heap.size, 1, none⟩ = some (.slice A1 st.length c1) := (blk_cell Ba.out 1).trans rfl
 go_wp2_with fail
 refine (toLineBuf_any w19 A0 c0 xs A1 c1 st (Kd.C_below H0.out HB.out) hc0 (Kd.C_below H1.out HB.out) hc1 HSZ.out).mono ?_
 rintro e w20 ⟨u0, u1, rfl, hlb, hb⟩
 clear qa0 qa1
 rw [HGS.out] at hlb
 obtain ⟨V0, j0, V1, j1, rfl, rfl, -, -, -, -⟩ := hlb.form
 have LBv := Aside0.mk hlb
 clear hlb
 have n0_ := Aside0.mk (below_step HB.out hb)
 have n1_ := Aside0.mk (blk_below Ba.out hb)
 have n2_ := Aside0.mk (LBw.out.below hb)
 have n3_ := Aside0.mk (blk_below Bw.out hb)
 have n4_ := Aside0.mk (below_step HBx.out hb)
 have n5_ := Aside0.mk (blk_below Bx.out hb)
 have n6_ := Aside0.mk (LBg.out.below hb)
 have n7_ := Aside0.mk (blk_below Bg.out hb)
 clear HB
 clear Ba
 clear LBw
 clear Bw
 clear HBx
 clear Bx
 clear LBg
 clear Bg
 have HB := n0_
 have Ba := n1_
 have LBw := n2_
 have Bw := n3_
 have HBx := n4_
 have Bx := n5_
 have LBg := n6_
 have Bg := n7_
 clear n0_ n1_ n2_ n3_ n4_ n5_ n6_ n7_
 have Zw20 := Aside0.mk (hb.size)
 clear hb
 go_wp2_with fail
 refine (lineLineCol_any w20 gs V0 j0 st V1 j1 off (Kd.S_reads' LBv.out.1).2.2 (Kd.S_reads' LBv.out.1).2.1 (Kd.R_reads' LBv.out.2).2.2 (Kd.R_reads' LBv.out.2).2.1 HGB.out.1 (by have := HSZ.out; omega) HGZ.out (HG0.out.below HB.out)).mono ?_
 rintro e w21 ⟨ys, st2, ra2, rb2, rc2, hres2, v0, v1, rfl, hlb, hb⟩
 obtain ⟨rfl, rfl, rfl, rfl, rfl⟩ := HRES.out.unique hres2
 clear hres2
 obtain ⟨H0_, r0, H1_, r1, rfl, rfl, -, -, -, -⟩ := hlb.form
 have LBh := Aside0.mk hlb
 clear hlb LBv
 have n0_ := Aside0.mk (below_step HB.out hb)
 have n1_ := Aside0.mk (blk_below Ba.out hb)
 have n2_ := Aside0.mk (LBw.out.below hb)
 have n3_ := Aside0.mk (blk_below Bw.out hb)
 have n4_ := Aside0.mk (below_step HBx.out hb)
 have n5_ := Aside0.mk (blk_below Bx.out hb)
 have n6_ := Aside0.mk (LBg.out.below hb)
 have n7_ := Aside0.mk (blk_below Bg.out hb)
 clear HB
 clear Ba
 clear LBw
 clear Bw
 clear HBx
 clear Bx
 clear LBg
 clear Bg
 have HB := n0_
 have Ba := n1_
 have LBw := n2_
 have Bw := n3_
 have HBx := n4_
 have Bx := n5_
 have LBg := n6_
 have Bg := n7_
 clear n0_ n1_ n2_ n3_ n4_ n5_ n6_ n7_
 have Zw21 := Aside0.mk (hb.size)
 clear hb
 go_wp2_with (first | ((with_reducible refine gate_dst (N := 18) rfl ?_); refine box_event ?hg (N := 18) ?hd (cs := #[.slice none 0 0, .slice none 0 0]) (t := 29) ?hr ?_; (case hd => rfl); (case hg => rfl); (case hr => first | (go_simp; done) | (go_simp; rfl)); intro bh hbo w22 hbox hb; have BK := Aside0.mk hbox; have BW := Aside0.mk hb; have Eh := Aside0.mk hbo; have LE := Aside0.mk (by rw [hbo]; exact Nat.le_refl _ : w21.heap.size ≤ bh); have a0 : w22.cell? ⟨bh, 0, none⟩ = some (.slice none 0 0) := (blk_cell hbox 0).trans rfl; have a1 : w22.cell? ⟨bh, 1, none⟩ = some (.slice none 0 0) := (blk_cell hbox 1).trans rfl; have f0 := blk_frozen hbox 0; have f1 := blk_frozen hbox 1; clear hb hbox hbo) | ((with_reducible refine gate_store (t := 29) (p := 18) rfl ?_); refine store_event (t := 29) (p := 18) (v := ?vo_w23) (w1 := (w22.setCell ⟨bh, 0, none⟩ (.slice H0_ xs'.length r0)).setCell ⟨bh, 1, none⟩ (.slice H1_ st'.length r1)) ?hg ?ho ?hn ?hr ?_; (case ho => rfl); (case hg => rfl); (case hn => rfl); (case hr => first | (go_simp; done) | (go_simp; rfl)); intro w23 e5; have h5 : Below w21.heap.size w21 w23 := (by rw [e5]; exact below_set (below_set BW.out LE.out) LE.out); have Bh := Aside0.mk (show w23.heap[bh]? = some (.cells #[.slice H0_ xs'.length r0, .slice H1_ st'.length r1] 29 (0, 0)) by rw [e5]; exact blk_put (blk_put BK.out 0 _ rfl) 1 _ rfl); clear e5 a0 a1 f0 f1 BK BW LE; have LTh := Aside0.mk (blk_lt Bh.out); have n0_ := Aside0.mk (below_step HB.out h5); have n1_ := Aside0.mk (blk_below Ba.out h5); have n2_ := Aside0.mk (LBw.out.below h5); have n3_ := Aside0.mk (blk_below Bw.out h5); have n4_ := Aside0.mk (below_step HBx.out h5); have n5_ := Aside0.mk (blk_below Bx.out h5); have n6_ := Aside0.mk (LBg.out.below h5); have n7_ := Aside0.mk (blk_below Bg.out h5); have n8_ := Aside0.mk (LBh.out.below h5); clear HB; clear Ba; clear LBw; clear Bw; clear HBx; clear Bx; clear LBg; clear Bg; clear LBh; have HB := n0_; have Ba := n1_; have LBw := n2_; have Bw := n3_; have HBx := n4_; have Bx := n5_; have LBg := n6_; have Bg := n7_; have LBh := n8_; clear n0_ n1_ n2_ n3_ n4_ n5_ n6_ n7_ n8_; have Zw23 := Aside0.mk (h5.size); clear h5; have qh0 : w23.cell? ⟨bh, 0, none⟩ = some (.slice H0_ xs'.length r0) := (blk_cell Bh.out 0).trans rfl; have qh1 : w23.cell? ⟨bh, 1, none⟩ = some (.slice H1_ st'.length r1) := (blk_cell Bh.out 1).trans rfl; have qw0 : w23.cell? ⟨bw, 0, none⟩ = some (.slice W0 xs'.length e0) := (blk_cell Bw.out 0).trans rfl; have qw1 : w23.cell? ⟨bw, 1, none⟩ = some (.slice W1 st'.length e1) := (blk_cell Bw.out 1).trans rfl))
 refine (eqLineBuf_any w23 _ _ _ _ _ _ _ _ xs' st' LBh.out LBw.out (BND.out.1) (BND.out.2.1) (BND.out.2.2)).mono ?_
 rintro e w24 ⟨rfl, hb⟩
 clear qh0 qh1 qw0 qw1
 have n0_ := Aside0.mk (below_step HB.out hb)
 have n1_ := Aside0.mk (blk_below Ba.out hb)
 have n2_ := Aside0.mk (LBw.out.below hb)
 have n3_ := Aside0.mk (blk_below Bw.out hb)
 have n4_ := Aside0.mk (below_step HBx.out hb)
 have n5_ := Aside0.mk (blk_below Bx.out hb)
 have n6_ := Aside0.mk (LBg.out.below hb)
 have n7_ := Aside0.mk (blk_below Bg.out hb)
 have n8_ := Aside0.mk (LBh.out.below hb)
 have n9_ := Aside0.mk (blk_below Bh.out hb)
 clear HB
 clear Ba
 clear LBw
 clear Bw
 clear HBx
 clear Bx
 clear LBg
 clear Bg
 clear LBh
 clear Bh
 have HB := n0_
 have Ba := n1_
 have LBw := n2_
 have Bw := n3_
 have HBx := n4_
 have Bx := n5_
 have LBg := n6_
 have Bg := n7_
 have LBh := n8_
 have Bh := n9_
 clear n0_ n1_ n2_ n3_ n4_ n5_ n6_ n7_ n8_ n9_
 have Zw24 := Aside0.mk (hb.size)
 clear hb
 have qg0 : w24.cell? ⟨bg, 0, none⟩ = some (.slice G0 xs'.length m0) := (blk_cell Bg.out 0).trans rfl
 have qg1 : w24.cell? ⟨bg, 1, none⟩ = some (.slice G1 st'.length m1) := (blk_cell Bg.out 1).trans rfl
 go_wp2_with fail
 refine (heldLineBuf_any w24 _ _ _ _ xs' st' LBg.out (BND.out.1) (BND.out.2.1) (BND.out.2.2)).mono ?_
 rintro e w25 ⟨rfl, hb⟩
 clear qg0 qg1
 rw [HKG.out]
 have n0_ := Aside0.mk (below_step HB.out hb)
 have n1_ := Aside0.mk (blk_below Ba.out hb)
 have n2_ := Aside0.mk (LBw.out.below hb)
 have n3_ := Aside0.mk (blk_below Bw.out hb)
 have n4_ := Aside0.mk (below_step HBx.out hb)
 have n5_ := Aside0.mk (blk_below Bx.out hb)
 have n6_ := Aside0.mk (LBg.out.below hb)
 have n7_ := Aside0.mk (blk_below Bg.out hb)
 have n8_ := Aside0.mk (LBh.out.below hb)
 have n9_ := Aside0.mk (blk_below Bh.out hb)
 clear HB
 clear Ba
 clear LBw
 clear Bw
 clear HBx
 clear Bx
 clear LBg
 clear Bg
 clear LBh
 clear Bh
 have HB := n0_
 have Ba := n1_
 have LBw := n2_
 have Bw := n3_
 have HBx := n4_
 have Bx := n5_
 have LBg := n6_
 have Bg := n7_
 have LBh := n8_
 have Bh := n9_
 clear n0_ n1_ n2_ n3_ n4_ n5_ n6_ n7_ n8_ n9_
 have Zw25 := Aside0.mk (hb.size)
 clear hb
 go_wp2
 go_ret
 exact ⟨rfl, HB.out⟩
end Go.Proofs.YtamcacahjlaogaaDoor.LP
