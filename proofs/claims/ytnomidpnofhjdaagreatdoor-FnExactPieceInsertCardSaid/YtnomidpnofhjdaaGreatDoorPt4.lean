/- A text put into a text of pieces (insert), walked. Condition: the text is a valid one with room, the offset lies in it. -/
import Derived.Test.YtnomidpnofhjdaaGreatDoorPt3
import Derived.Deep.RegionWith
namespace Go.Proofs.YtnomidpnofhjdaaGreatDoor
open Go.RowKit Go.Proofs.YtnomidpnofhjdaaGreatDoorW.PrintWords Go.Proofs.YtnomidpnofhjdaaGreatDoorW.PrintLast Go.Proofs.YtnomidpnofhjdaaGreatDoorW.PrintMore Er
theorem app_ownb {P : Program} {ops : Array Oper} {rest : List Oper} {o : Oper} {a : Act} {Q : Exit → Act → World → Prop} (k : IntKind) {W : World} (base : Nat) (ok : Nat → Prop) (hgd : o.guard = none) (s x : Operand) (t e : TypeId) (z : Value) (bytes : Nat)
  (ho : o.op = .call { callee := .builtin .append, args := #[s, x], argTypes := #[t, t] })
  (ht : P.underlying t = some (.slice e)) (hinfo : (P.info? e).map (fun i => (i.zero, i.size, i.bytes)) = some (some z, 1, bytes)) (hz : z.cells.size = 1) (hb0 : 0 < bytes)
  (v : Value) (hs : a.eval s = v) (xs ys : List Int) (A : Option Addr) (m c : Nat) (hx : a.eval x = .slice A m c) (hm : m = ys.length) (HO : (Kd.int k).R e W base ok v xs) (HR : (Kd.int k).C W A ys.length ys) (hfresh : ∀ k, W.heap.size ≤ k → ok k) (hbase : base ≤ W.heap.size) (hl : (xs.length + ys.length) * bytes ≤ 140737488355328)
  (h : ∀ v1 w1, (Kd.int k).R e w1 base ok v1 (xs ++ ys) → W.grownBy w1 v.ownBlock → wpList P ops Q rest (a.put o.dst v1) w1) :
  wpList P ops Q (o :: rest) a W := by
 subst hm
 refine Kd.R_append_rows (Kd.int k) (w0 := W) base hgd s x t e z bytes ho ht hinfo hz Nat.one_pos hb0 v xs ys A ys.length c ok (fun _ => False) hs hx HO HR (fun _ _ h => h) (fun _ h => h.elim) hfresh ((Below.refl _ _).mono hbase) hbase hl ?_
 intro v1 w1 h1 _ h3 _
 exact h v1 w1 h1 h3
theorem cut_to (w : World) (base b : Nat) (T : List Int) (t : Tree) (S : List Nat) (off : Int) (t' : Tree) (r : Nat) (hc : cutT T t off = (t', r)) (h : PS w base b T t S) (ok : TxtOk T t) (h0 : 0 ≤ off) (h1 : off ≤ rl t) (hbs : base ≤ w.heap.size) :
  Calls Tryz.prog 70 #[.pointer (some ⟨b, 0, none⟩), .int .i64 off] w fun e w' => e = .returned (.int .i64 (r : Nat)) ∧ (∃ S', PS w' base b T t' S') ∧ Below base w w' := by
 have := cut_any w base b T t S off h ok h0 h1 hbs
 rw [hc] at this
 exact this
theorem set_step (w w0 : World) (base b : Nat) (T : List Int) (t : Tree) (S : List Nat) (p : Option Nat) (u : Value) (v : Pc) (j : Nat) (h : PS w base b T t S) (hG : w.heap[b]? = some (.cells #[u, ptrV p] 69 (0, 0))) (hr : Rep w t p S) (hc : TP.cnt t ≤ 90000000000) (hj : j < TP.cnt t) (hb : Below base w0 w) (hbs : base ≤ w.heap.size) (w4 : World) (hb4 : Below w.heap.size w w4) :
  Calls Tryz.prog 69 #[ptrV p, .int .i64 (j : Int), pcV v] w4 fun e w5 => e = .returned (.tuple #[]) ∧ PS w5 base b T (setT v t j) S ∧ Below base w0 w5 ∧ Rep w5 (setT v t j) p S ∧ w5.heap[b]? = some (.cells #[u, ptrV p] 69 (0, 0)) ∧ (∀ g cs ty, w.heap[g]? = some (.cells cs ty (0, 0)) → g ∉ S → w5.heap[g]? = some (.cells cs ty (0, 0))) := by
 have G4 := blk_below hG hb4
 refine (set_any v t w4 p S j j rfl (hr.below hb4) h.nd hc hj).mono ?_
 rintro e w5 ⟨rfl, hu, hrep⟩
 have hP := (h.below hb4).put G4 hu hrep
 refine ⟨rfl, hP.1, (hb.trans (hb4.mono hbs)).trans hP.2, hrep, (hu.block b (blk_lt G4) (h.below hb4).bS).trans G4, fun g cs ty hg hn => (hu.block g (blk_lt (blk_below hg hb4)) hn).trans (blk_below hg hb4)⟩
theorem ins_step (w w0 : World) (base b : Nat) (T : List Int) (t : Tree) (S : List Nat) (p : Option Nat) (u : Value) (v : Pc) (r : Nat) (h : PS w base b T t S) (hG : w.heap[b]? = some (.cells #[u, ptrV p] 69 (0, 0))) (hr : Rep w t p S) (hc : TP.cnt t ≤ 90000000000) (hj : r ≤ TP.cnt t) (hb : Below base w0 w) (hbs : base ≤ w.heap.size) (w4 : World) (hb4 : Below w.heap.size w w4) :
  Calls Tryz.prog 71 #[ptrV p, .int .i64 (r : Int), pcV v] w4 fun e w7 => ∃ p' S', e = .returned (ptrV p') ∧ (w7.cell? ⟨b, 1, none⟩ = some (ptrV p)) ∧ w7.frozen? ⟨b, 1, none⟩ = false ∧ PS (w7.setCell ⟨b, 1, none⟩ (ptrV p')) base b T (TP.insert v t r) S' ∧ Below base w0 (w7.setCell ⟨b, 1, none⟩ (ptrV p')) := by
 have G4 := blk_below hG hb4
 have P4 := h.below hb4
 refine (insert_any v t w4 p S r r rfl (hr.below hb4) h.nd hc hj).mono ?_
 rintro e w7 ⟨p', S', rfl, hu, hrep, nd', fr⟩
 have RT := P4.root hu hrep nd' fr
 have G7 := (hu.block b (blk_lt G4) P4.bS).trans G4
 exact ⟨p', S', rfl, (blk_cell G7 1).trans rfl, blk_frozen G7 1, RT.2.1, (hb.trans (hb4.mono hbs)).trans RT.2.2⟩
theorem goesOn_zero (T : List Int) (t : Tree) (off : Int) (h : ¬ 0 < off) : goesOn T t off = none := by unfold goesOn; rw [if_neg h]
theorem goesOn_at (T : List Int) (t : Tree) (off : Int) (x : Pc) (h : 0 < off) (hx : (TP.toL t)[(seek (TP.toL t) (off - 1)).1]? = some x) : goesOn T t off = if (seek (TP.toL t) (off - 1)).2 = x.len - 1 ∧ x.off + x.len = (T.length : Int) then some ((seek (TP.toL t) (off - 1)).1, x) else none := by unfold goesOn; rw [if_pos h, hx]
theorem pins_some (T X : List Int) (t : Tree) (off : Int) (k : Nat) (x : Pc) (h : goesOn T t off = some (k, x)) : pinsT T X t off = setT (mkP (T ++ X) x.off (x.len + (X.length : Int))) t k := by unfold pinsT; rw [h]
theorem pins_none (T X : List Int) (t : Tree) (off : Int) (h : goesOn T t off = none) (t' : Tree) (r : Nat) (hc : cutT (T ++ X) t off = (t', r)) : pinsT T X t off = TP.insert (mkP (T ++ X) (T.length : Int) (X.length : Int)) t' r := by unfold pinsT; rw [h]; simp only [hc]
def PinsPost (w : World) (base b : Nat) (T X : List Int) (t : Tree) (off : Int) (e : Ending) (w' : World) : Prop := e = .returned (.tuple #[]) ∧ (∃ S', PS w' base b (T ++ X) (pinsT T X t off) S') ∧ Below base w w'
set_option maxHeartbeats 8000000 in
set_option maxRecDepth 100000 in
theorem pinsert_any (w : World) (base b : Nat) (T X : List Int) (B : Option Addr) (d : Nat) (t : Tree) (S : List Nat) (off : Int) (h : PS w base b T t S) (ok : TxtOk T t) (ha : TP.Avl t) (h0 : 0 ≤ off) (h1 : off ≤ rl t) (hl : (T ++ X).length ≤ 1000000) (hX : Kd.C (Kd.int .i32) w B X.length X) (hXd : X.length ≤ d) (hbs : base ≤ w.heap.size) :
  Calls Tryz.prog 37 #[.pointer (some ⟨b, 0, none⟩), .int .i64 off, .slice B X.length d] w (PinsPost w base b T X t off) := by
 have key := allP_key t ok.allp
 have hsum := ok.sum
 have hl' := hl
 rw [List.length_append] at hl'
 obtain ⟨A, c, p, g1, g2, g3⟩ := h.ex
 have q0 : w.cell? ⟨b, 0, none⟩ = some (.slice A T.length c) := (blk_cell g1 0).trans rfl
 have HP := Aside0.mk h
 have OK := Aside0.mk ok
 have OKL := Aside0.mk (ok.longer hl)
 have G1 := Aside0.mk g1
 have G2 := Aside0.mk g2
 have G3 := Aside0.mk g3
 have HX := Aside0.mk hX
 have HL := Aside0.mk hl'
 obtain ⟨t', r, hcr⟩ : ∃ t' r, cutT (T ++ X) t off = (t', r) := ⟨_, _, rfl⟩
 have CO := cutT_ok (T ++ X) t off (ok.longer hl) ha h0 h1
 rw [hcr] at CO
 have CO := Aside0.mk CO
 have HCR := Aside0.mk hcr
 have KS := Aside0.mk (And.intro key hsum)
 have HXD := Aside0.mk hXd
 obtain ⟨n, hn⟩ : ∃ n, (T ++ X).length = n := ⟨_, rfl⟩
 have HN := Aside0.mk hn
 clear h ok g1 g2 g3 hX hl hcr key hsum hl' hXd hn
 by_cases co : 0 < off
 ·have cod : decide ((0 : Int) < off) = true := decide_eq_true co
  obtain ⟨o1, ho1⟩ : ∃ o1, o1 = off - 1 := ⟨_, rfl⟩
  have how : wrap64 (off - 1) = o1 := by have := KS.out; unfold wrap64; omega
  have hlt : o1 < rl t := by omega
  have hge : 0 ≤ o1 := by omega
  have hpos : ∀ x ∈ TP.toL t, 1 ≤ x.len := fun x hx => (OK.out.allp x hx).1
  obtain ⟨x, hx, k0, k1, hsk⟩ := seek_in (TP.toL t) hpos o1 hge (by rw [lenP_toL]; exact hlt)
  obtain ⟨fv1, fv2⟩ := findV_seek t OK.out.allp o1 0 1 hge hlt
  have GO := goesOn_at T t off x co (by rw [← ho1]; exact hx)
  rw [← ho1] at GO
  have hjl : (seek (TP.toL t) o1).1 < TP.cnt t := by rw [← TP.toL_length]; exact (List.getElem?_eq_some_iff.1 hx).1
  rw [Int.zero_add] at fv1
  generalize (seek (TP.toL t) o1).1 = j at hx hjl fv1 GO hsk
  generalize (seek (TP.toL t) o1).2 = k at k0 k1 fv2 GO hsk
  have hin := OK.out.ins x (List.mem_of_getElem? hx)
  have HXX := Aside0.mk hx
  have GO := Aside0.mk GO
  have FV := Aside0.mk (And.intro fv1 fv2)
  have HJL := Aside0.mk hjl
  clear hsk hpos hx fv1 fv2 co ho1 hjl
  go_enter Tryz.func37, Tryz.ntmps37
  go_wp2_with ((with_reducible refine gate_builtin (b := .append) (xs := #[.tmp 21, .tmp 22]) rfl ?_); at_builtin; refine app_ownb .i32 base (fun _ => True) rfl (.tmp 21) (.tmp 22) 22 21 (.int .i32 0) 4 rfl Tryz.underlying22 info32 rfl (by decide) _ rfl T X B _ d rfl rfl G2.out HX.out (fun _ _ => trivial) hbs (by have := HL.out; omega) ?_; intro v1 w1 hR1 hg1; obtain ⟨A2, c2, ev2⟩ := Kd.R_slice hR1; rw [HN.out] at ev2; subst ev2; have GR := HP.out.grow G1.out hg1 hR1; have c1 : w1.cell? ⟨b, 0, none⟩ = some (.slice A T.length c) := (blk_cell GR.1 0).trans rfl; have f1 := blk_frozen GR.1 0; have q1 : (w1.setCell ⟨b, 0, none⟩ (.slice A2 n c2)).cell? ⟨b, 1, none⟩ = some (ptrV p) := (blk_cell GR.2.2.2 1).trans rfl; have GR0 := Aside0.mk GR; have HR1 := Aside0.mk hR1; clear GR hR1 hg1)
  obtain ⟨w2, e2⟩ : ∃ y, w1.setCell ⟨b, 0, none⟩ (.slice A2 n c2) = y := ⟨_, rfl⟩
  have GR1 := GR0.out
  rw [e2] at GR1
  rw [e2]
  try rw [e2] at q1
  have GRA := Aside0.mk GR1
  clear GR0 GR1 e2 c1 f1 q0
  have q2 := q1
  have RP2 := GRA.out.2.1.rep GRA.out.2.2.2
  have FA := find_any w2 t p S o1 RP2 OK.out.fine hge hlt
  rw [FV.out.1, FV.out.2] at FA
  have RPA := Aside0.mk RP2
  clear RP2
  generalize (findV t o1 0 1).2.2 = sn at FA
  refine FA.mono ?_
  rintro e w3 ⟨rfl, hb3⟩
  have HB3 := Aside0.mk hb3
  have q3 : w3.cell? ⟨b, 1, none⟩ = some (ptrV p) := (blk_cell (blk_below GRA.out.2.2.2 hb3) 1).trans rfl
  have GT := Aside0.mk (get_any w3 t p S j x (RPA.out.below hb3) HXX.out (by have := KS.out; omega))
  clear hb3 q1 q2 FA
  go_wp2_with fail
  refine GT.out.mono ?_
  rintro e w4 ⟨rfl, hb4⟩
  have HB4 := Aside0.mk (HB3.out.trans (hb4.mono HB3.out.size))
  clear hb4 q3 HB3 GT
  have z0 : (w4.alloc (.cells #[.int .i64 x.off, .int .i64 x.len, .int .i64 x.brk] 84)).cell? ⟨w4.heap.size, 0, none⟩ = some (.int .i64 x.off) := (blk_cell (blk_new w4 (.cells #[.int .i64 x.off, .int .i64 x.len, .int .i64 x.brk] 84)) 0).trans rfl
  have z1 : (w4.alloc (.cells #[.int .i64 x.off, .int .i64 x.len, .int .i64 x.brk] 84)).cell? ⟨w4.heap.size, 1, none⟩ = some (.int .i64 x.len) := (blk_cell (blk_new w4 (.cells #[.int .i64 x.off, .int .i64 x.len, .int .i64 x.brk] 84)) 1).trans rfl
  obtain ⟨i1, i2, i3, i4⟩ := hin
  have sx : wrap64 (x.len - 1) = x.len - 1 := by unfold wrap64; omega
  have hTl := HL.out
  have sy : wrap64 (x.off + x.len) = x.off + x.len := by unfold wrap64; omega
  clear i1 i2 i3 i4 hTl
  by_cases ck : k = x.len - 1
  ·have ckd : decide (k = x.len - 1) = true := decide_eq_true ck
   have cke : (k == x.len - 1) = true := by simp [ck]
   by_cases cp : x.off + x.len = (T.length : Int)
   ·have cpd : decide (x.off + x.len = (T.length : Int)) = true := decide_eq_true cp
    have cpe : (x.off + x.len == (T.length : Int)) = true := by simp [cp]
    have CP := Aside0.mk (And.intro ck cp)
    clear ck cp
    go_wp2
    clear z0 z1
    obtain ⟨w5, e5⟩ : ∃ y, w4.alloc (.cells #[.int .i64 x.off, .int .i64 x.len, .int .i64 x.brk] 84) = y := ⟨_, rfl⟩
    have hb45 : Below w4.heap.size w4 w5 := by subst e5; exact (Below.refl _ w4).alloc (Nat.le_refl _) _
    have BX5 : w5.heap[w4.heap.size]? = some (.cells #[.int .i64 x.off, .int .i64 x.len, .int .i64 x.brk] 84 (0, 0)) := by subst e5; exact blk_new w4 (.cells #[.int .i64 x.off, .int .i64 x.len, .int .i64 x.brk] 84)
    rw [e5]
    clear e5
    obtain ⟨g, hg⟩ : ∃ g, w4.heap.size = g := ⟨_, rfl⟩
    rw [hg] at BX5 hb45
    try rw [hg]
    have HB5 : Aside0 (Below w2.heap.size w2 w5) := ⟨HB4.out.trans (hb45.mono (by rw [← hg]; exact HB4.out.size))⟩
    have y0 : w5.cell? ⟨g, 0, none⟩ = some (.int .i64 x.off) := (blk_cell BX5 0).trans rfl
    have y1 : w5.cell? ⟨g, 1, none⟩ = some (.int .i64 x.len) := (blk_cell BX5 1).trans rfl
    clear hb45 hg HB4
    have PW5 : Aside0 (PS w5 base b (T ++ X) t S) := ⟨GRA.out.2.1.below HB5.out⟩
    have hbs2 : base ≤ w2.heap.size := Nat.le_trans hbs GRA.out.2.2.1.size
    have HBW5 : Aside0 (Below base w w5) := ⟨GRA.out.2.2.1.trans (HB5.out.mono hbs2)⟩
    have EQ := Aside0.mk (pins_some T X t off j x (by rw [GO.out, if_pos CP.out]))
    obtain ⟨i1, i2, i3, i4⟩ := OK.out.ins x (List.mem_of_getElem? HXX.out)
    have hTl := HL.out
    have G5 := Aside0.mk (blk_below GRA.out.2.2.2 HB5.out)
    have q5 : w5.cell? ⟨b, 1, none⟩ = some (ptrV p) := (blk_cell G5.out 1).trans rfl
    have HD5 : Below w5.heap.size w5 w5.drew := (Below.refl w5.heap.size w5).drew
    have sw : IntKind.i64.wrap (x.len + (X.length : Int)) = x.len + (X.length : Int) := by rw [IntKind.wrap_i64]; omega
    have sw2 : wrap64 (x.len + (X.length : Int)) = x.len + (X.length : Int) := by unfold wrap64; omega
    have G5d := blk_below G5.out HD5
    have PC1 := Aside0.mk (piece_at w5.drew base b A2 c2 (T ++ X) (ptrV p) x.off (x.len + (X.length : Int)) (by rw [HN.out]; exact G5d) (by rw [HN.out]; exact Kd.R_below (Kd.R_below (GRA.out.2.1.row GRA.out.2.2.2) HB5.out) HD5) i1 (by omega) (by rw [List.length_append]; omega) OKL.out.len)
    have ST1 := Aside0.mk (set_step w5.drew w base b (T ++ X) t S p _ (mkP (T ++ X) x.off (x.len + (X.length : Int))) j (PW5.out.below HD5) G5d ((RPA.out.below HB5.out).below HD5) (by have := KS.out; omega) HJL.out HBW5.out.drew (Nat.le_trans hbs2 HB5.out.size))
    clear G5d HD5 i1 i2 i3 i4 hTl CP
    go_wp2
    go_region_with (first | (go_at_call 64; refine PC1.out.mono ?_; rintro e w6 ⟨rfl, hb6⟩; have c6 : w6.cell? ⟨b, 1, none⟩ = some (ptrV p) := (blk_cell (blk_below (w := w5.drew) G5.out hb6) 1).trans rfl) | (go_at_call 69; refine (ST1.out w6 hb6).mono ?_; rintro e w7 ⟨rfl, P7, HB7, -⟩))
    all_goals
     go_wp2
     ((try simp only [Exit.inBlock, Exit.then]); refine bodyPost_ret (results_none rfl _ _ _) rfl ?_)
     exact ⟨rfl, ⟨S, by rw [EQ.out]; exact P7⟩, HB7⟩
   ·have cpd : decide (x.off + x.len = (T.length : Int)) = false := decide_eq_false cp
    have cpe : (x.off + x.len == (T.length : Int)) = false := by simp [cp]
    have EQ := Aside0.mk (pins_none T X t off (by rw [GO.out, if_neg (fun q => cp q.2)]) t' r HCR.out)
    go_wp2_with fail
    clear z0 z1
    obtain ⟨w5, e5⟩ : ∃ y, w4.alloc (.cells #[.int .i64 x.off, .int .i64 x.len, .int .i64 x.brk] 84) = y := ⟨_, rfl⟩
    have hb45 : Below w4.heap.size w4 w5 := by subst e5; exact (Below.refl _ w4).alloc (Nat.le_refl _) _
    have BX5 : w5.heap[w4.heap.size]? = some (.cells #[.int .i64 x.off, .int .i64 x.len, .int .i64 x.brk] 84 (0, 0)) := by subst e5; exact blk_new w4 (.cells #[.int .i64 x.off, .int .i64 x.len, .int .i64 x.brk] 84)
    rw [e5]
    clear e5
    obtain ⟨g, hg⟩ : ∃ g, w4.heap.size = g := ⟨_, rfl⟩
    rw [hg] at BX5 hb45
    try rw [hg]
    have HB5 : Aside0 (Below w2.heap.size w2 w5) := ⟨HB4.out.trans (hb45.mono (by rw [← hg]; exact HB4.out.size))⟩
    have y0 : w5.cell? ⟨g, 0, none⟩ = some (.int .i64 x.off) := (blk_cell BX5 0).trans rfl
    have y1 : w5.cell? ⟨g, 1, none⟩ = some (.int .i64 x.len) := (blk_cell BX5 1).trans rfl
    clear hb45 hg HB4
    have PW5 : Aside0 (PS w5 base b (T ++ X) t S) := ⟨GRA.out.2.1.below HB5.out⟩
    have hbs2 : base ≤ w2.heap.size := Nat.le_trans hbs GRA.out.2.2.1.size
    have HBW5 : Aside0 (Below base w w5) := ⟨GRA.out.2.2.1.trans (HB5.out.mono hbs2)⟩
    have CT := Aside0.mk (cut_to w5 base b (T ++ X) t S off t' r HCR.out PW5.out OKL.out h0 h1 (Nat.le_trans hbs HBW5.out.size))
    have HBW : Aside0 (Below base w w5) := ⟨HBW5.out⟩
    refine CT.out.mono ?_
    rintro e w7 ⟨rfl, ⟨S7, hp7⟩, hb7⟩
    have HP7 := Aside0.mk hp7
    have HB7 := Aside0.mk (HBW.out.trans hb7)
    obtain ⟨A7, c7, p7, g1, g2, g3⟩ := hp7.ex
    have q7 : w7.cell? ⟨b, 1, none⟩ = some (ptrV p7) := (blk_cell g1 1).trans rfl
    have hbs7 : base ≤ w7.heap.size := Nat.le_trans hbs HB7.out.size
    have HD7 : Below w7.heap.size w7 w7.drew := (Below.refl w7.heap.size w7).drew
    have G7 := Aside0.mk (blk_below g1 HD7)
    have PC2 := Aside0.mk (piece_at w7.drew base b A7 c7 (T ++ X) (ptrV p7) (T.length : Int) (X.length : Int) G7.out (Kd.R_below g2 HD7) (by omega) (by omega) (by rw [List.length_append]; omega) OKL.out.len)
    have hr' := CO.out.rank
    have hcn := CO.out.cnt
    have IN2 := Aside0.mk (ins_step w7.drew w base b (T ++ X) t' S7 p7 _ (mkP (T ++ X) (T.length : Int) (X.length : Int)) r (hp7.below HD7) G7.out (g3.below HD7) (by have := KS.out; omega) hr' HB7.out.drew (by exact hbs7))
    clear hp7 hb7 g1 g2 g3 HD7 hr' hcn
    go_wp2
    go_region_with (first | (go_at_call 64; refine PC2.out.mono ?_; rintro e w8 ⟨rfl, hb8⟩; have c8 : w8.cell? ⟨b, 1, none⟩ = some (ptrV p7) := (blk_cell (blk_below (w := w7.drew) G7.out hb8) 1).trans rfl) | (go_at_call 71; refine (IN2.out w8 hb8).mono ?_; rintro e w9 ⟨p', S', rfl, c9, f9, P9, HB9⟩))
    all_goals
     go_end0
     exact ⟨rfl, ⟨S', by rw [EQ.out]; exact P9⟩, HB9⟩
  ·have ckd : decide (k = x.len - 1) = false := decide_eq_false ck
   have cke : (k == x.len - 1) = false := by simp [ck]
   have EQ := Aside0.mk (pins_none T X t off (by rw [GO.out, if_neg (fun q => ck q.1)]) t' r HCR.out)
   go_wp2_with fail
   clear z0 z1
   obtain ⟨w5, e5⟩ : ∃ y, w4.alloc (.cells #[.int .i64 x.off, .int .i64 x.len, .int .i64 x.brk] 84) = y := ⟨_, rfl⟩
   have hb45 : Below w4.heap.size w4 w5 := by subst e5; exact (Below.refl _ w4).alloc (Nat.le_refl _) _
   have BX5 : w5.heap[w4.heap.size]? = some (.cells #[.int .i64 x.off, .int .i64 x.len, .int .i64 x.brk] 84 (0, 0)) := by subst e5; exact blk_new w4 (.cells #[.int .i64 x.off, .int .i64 x.len, .int .i64 x.brk] 84)
   rw [e5]
   clear e5
   obtain ⟨g, hg⟩ : ∃ g, w4.heap.size = g := ⟨_, rfl⟩
   rw [hg] at BX5 hb45
   try rw [hg]
   have HB5 : Aside0 (Below w2.heap.size w2 w5) := ⟨HB4.out.trans (hb45.mono (by rw [← hg]; exact HB4.out.size))⟩
   have y0 : w5.cell? ⟨g, 0, none⟩ = some (.int .i64 x.off) := (blk_cell BX5 0).trans rfl
   have y1 : w5.cell? ⟨g, 1, none⟩ = some (.int .i64 x.len) := (blk_cell BX5 1).trans rfl
   clear hb45 hg HB4
   have PW5 : Aside0 (PS w5 base b (T ++ X) t S) := ⟨GRA.out.2.1.below HB5.out⟩
   have hbs2 : base ≤ w2.heap.size := Nat.le_trans hbs GRA.out.2.2.1.size
   have HBW5 : Aside0 (Below base w w5) := ⟨GRA.out.2.2.1.trans (HB5.out.mono hbs2)⟩
   have CT := Aside0.mk (cut_to w5 base b (T ++ X) t S off t' r HCR.out PW5.out OKL.out h0 h1 (Nat.le_trans hbs HBW5.out.size))
   have HBW : Aside0 (Below base w w5) := ⟨HBW5.out⟩
   refine CT.out.mono ?_
   rintro e w7 ⟨rfl, ⟨S7, hp7⟩, hb7⟩
   have HP7 := Aside0.mk hp7
   have HB7 := Aside0.mk (HBW.out.trans hb7)
   obtain ⟨A7, c7, p7, g1, g2, g3⟩ := hp7.ex
   have q7 : w7.cell? ⟨b, 1, none⟩ = some (ptrV p7) := (blk_cell g1 1).trans rfl
   have hbs7 : base ≤ w7.heap.size := Nat.le_trans hbs HB7.out.size
   have HD7 : Below w7.heap.size w7 w7.drew := (Below.refl w7.heap.size w7).drew
   have G7 := Aside0.mk (blk_below g1 HD7)
   have PC2 := Aside0.mk (piece_at w7.drew base b A7 c7 (T ++ X) (ptrV p7) (T.length : Int) (X.length : Int) G7.out (Kd.R_below g2 HD7) (by omega) (by omega) (by rw [List.length_append]; omega) OKL.out.len)
   have hr' := CO.out.rank
   have hcn := CO.out.cnt
   have IN2 := Aside0.mk (ins_step w7.drew w base b (T ++ X) t' S7 p7 _ (mkP (T ++ X) (T.length : Int) (X.length : Int)) r (hp7.below HD7) G7.out (g3.below HD7) (by have := KS.out; omega) hr' HB7.out.drew (by exact hbs7))
   clear hp7 hb7 g1 g2 g3 HD7 hr' hcn
   go_wp2
   go_region_with (first | (go_at_call 64; refine PC2.out.mono ?_; rintro e w8 ⟨rfl, hb8⟩; have c8 : w8.cell? ⟨b, 1, none⟩ = some (ptrV p7) := (blk_cell (blk_below (w := w7.drew) G7.out hb8) 1).trans rfl) | (go_at_call 71; refine (IN2.out w8 hb8).mono ?_; rintro e w9 ⟨p', S', rfl, c9, f9, P9, HB9⟩))
   all_goals
    go_end0
    exact ⟨rfl, ⟨S', by rw [EQ.out]; exact P9⟩, HB9⟩
 ·have cod : decide ((0 : Int) < off) = false := decide_eq_false co
  have EQ := Aside0.mk (pins_none T X t off (goesOn_zero T t off co) t' r HCR.out)
  go_enter Tryz.func37, Tryz.ntmps37
  go_wp2_with ((with_reducible refine gate_builtin (b := .append) (xs := #[.tmp 21, .tmp 22]) rfl ?_); at_builtin; refine app_ownb .i32 base (fun _ => True) rfl (.tmp 21) (.tmp 22) 22 21 (.int .i32 0) 4 rfl Tryz.underlying22 info32 rfl (by decide) _ rfl T X B _ d rfl rfl G2.out HX.out (fun _ _ => trivial) hbs (by have := HL.out; omega) ?_; intro v1 w1 hR1 hg1; obtain ⟨A2, c2, ev2⟩ := Kd.R_slice hR1; rw [HN.out] at ev2; subst ev2; have GR := HP.out.grow G1.out hg1 hR1; have c1 : w1.cell? ⟨b, 0, none⟩ = some (.slice A T.length c) := (blk_cell GR.1 0).trans rfl; have f1 := blk_frozen GR.1 0; have q1 : (w1.setCell ⟨b, 0, none⟩ (.slice A2 n c2)).cell? ⟨b, 1, none⟩ = some (ptrV p) := (blk_cell GR.2.2.2 1).trans rfl; have GR0 := Aside0.mk GR; have HR1 := Aside0.mk hR1; clear GR hR1 hg1)
  obtain ⟨w2, e2⟩ : ∃ y, w1.setCell ⟨b, 0, none⟩ (.slice A2 n c2) = y := ⟨_, rfl⟩
  have GR1 := GR0.out
  rw [e2] at GR1
  rw [e2]
  try rw [e2] at q1
  have GRA := Aside0.mk GR1
  clear GR0 GR1 e2 c1 f1 q0
  have CT := Aside0.mk (cut_to w2 base b (T ++ X) t S off t' r HCR.out GRA.out.2.1 OKL.out h0 h1 (Nat.le_trans hbs GRA.out.2.2.1.size))
  have HBW : Aside0 (Below base w w2) := ⟨GRA.out.2.2.1⟩
  refine CT.out.mono ?_
  rintro e w7 ⟨rfl, ⟨S7, hp7⟩, hb7⟩
  have HP7 := Aside0.mk hp7
  have HB7 := Aside0.mk (HBW.out.trans hb7)
  obtain ⟨A7, c7, p7, g1, g2, g3⟩ := hp7.ex
  have q7 : w7.cell? ⟨b, 1, none⟩ = some (ptrV p7) := (blk_cell g1 1).trans rfl
  have hbs7 : base ≤ w7.heap.size := Nat.le_trans hbs HB7.out.size
  have HD7 : Below w7.heap.size w7 w7.drew := (Below.refl w7.heap.size w7).drew
  have G7 := Aside0.mk (blk_below g1 HD7)
  have PC2 := Aside0.mk (piece_at w7.drew base b A7 c7 (T ++ X) (ptrV p7) (T.length : Int) (X.length : Int) G7.out (Kd.R_below g2 HD7) (by omega) (by omega) (by rw [List.length_append]; omega) OKL.out.len)
  have hr' := CO.out.rank
  have hcn := CO.out.cnt
  have IN2 := Aside0.mk (ins_step w7.drew w base b (T ++ X) t' S7 p7 _ (mkP (T ++ X) (T.length : Int) (X.length : Int)) r (hp7.below HD7) G7.out (g3.below HD7) (by have := KS.out; omega) hr' HB7.out.drew (by exact hbs7))
  clear hp7 hb7 g1 g2 g3 HD7 hr' hcn
  go_wp2
  go_region_with (first | (go_at_call 64; refine PC2.out.mono ?_; rintro e w8 ⟨rfl, hb8⟩; have c8 : w8.cell? ⟨b, 1, none⟩ = some (ptrV p7) := (blk_cell (blk_below (w := w7.drew) G7.out hb8) 1).trans rfl) | (go_at_call 71; refine (IN2.out w8 hb8).mono ?_; rintro e w9 ⟨p', S', rfl, c9, f9, P9, HB9⟩))
  all_goals
   go_end0
   exact ⟨rfl, ⟨S', by rw [EQ.out]; exact P9⟩, HB9⟩
end Go.Proofs.YtnomidpnofhjdaaGreatDoor
