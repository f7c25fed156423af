/- Lines: l4Find, walked. Conditions: a valid text in rows, a place in it. -/
import Derived.Test.YtamcacahjlaogaaDoorLr
namespace Go.Proofs.YtamcacahjlaogaaDoor.LP
open Go Go.RowKit Go.Proofs.YtamcacahjlaogaaDoor.Ln Go.Proofs.YtamcacahjlaogaaDoor.QBaseL Go.Proofs.YtamcacahjlaogaaDoorW.PrintWords Go.Proofs.YtamcacahjlaogaaDoorW.PrintLast Go.Proofs.YtamcacahjlaogaaDoorW.PrintMore
set_option linter.unusedSimpArgs false
set_option linter.unusedVariables false
theorem lineAll_any (w : World) (gs : List SG) (A0 : Option Addr) (c0 : Nat) (st : List Int) (A1 : Option Addr) (c1 : Nat) (hg0 : kG.C w A0 gs.length gs) (hc0 : gs.length ≤ c0) (hs : (Kd.int .i64).C w A1 st.length st) (hc1 : st.length ≤ c1) (h : Fine gs) :
  Calls Tryd.prog 50 #[.agg #[.slice A0 gs.length c0, .slice A1 st.length c1]] w fun e w' => ∃ v : Value, e = .returned v ∧ Kd.R (Kd.int .i64) 3 w' w.heap.size (fun _ => True) v (sts (gs.map rwOf) gs.length) ∧ Below w.heap.size w w' := by
 obtain ⟨k, hk⟩ := Ev.rounds (all_ev gs st h)
 exact spec_l4All.calls k A0 c0 gs A1 c1 st _ w hg0 hc0 hs hc1 hk
theorem copyRows_any (w : World) (gs : List SG) (A0 : Option Addr) (c0 : Nat) (hg0 : kG.C w A0 gs.length gs) (hc0 : gs.length ≤ c0) (h : Fine gs) :
  Calls Tryd.prog 51 #[.slice A0 gs.length c0] w fun e w' => ∃ v : Value, e = .returned v ∧ Kd.S kG 76 w' w.heap.size (fun _ => True) v gs ∧ Below w.heap.size w w' := by
 obtain ⟨k, hk⟩ := Ev.rounds (copyRows_ev gs h)
 exact spec_l4CopyRows.calls k A0 c0 gs gs w hg0 hc0 hk
theorem C_pre {α : Type} {d : Kd α} {w : World} {A : Option Addr} {xs : List α} (h : d.C w A xs.length xs) (k : Nat) (hk : k ≤ xs.length) : d.C w A k (xs.take k) := by
 have := Kd.C_take h hk
 rwa [List.length_take, Nat.min_eq_left hk] at this
structure RdQ (w6 : World) (lo gb rs : Nat) (cs cr : Array Value) (va : Value) (al : List Int) (gs : List SG) (ys : List Int) (o46 o47 o51 : Option Value) (o11 : Option Nat) (w' : World) : Prop where
 gb : w'.heap[gb]? = some (.cells cs 29 (0, 0))
 rs : w'.heap[rs]? = some (.cells cr 29 (0, 0))
 al : Kd.R (Kd.int .i64) 3 w' lo (fun k => k < w6.heap.size) va al
 bel : Below w6.heap.size w6 w'
 c46 : ∀ v, o46 = some v → Kd.S kG 76 w' w6.heap.size (fun _ => True) v gs
 c47 : ∀ v, o47 = some v → Kd.R (Kd.int .i64) 3 w' w6.heap.size (fun _ => True) v []
 c51 : ∀ v, o51 = some v → Kd.R (Kd.int .i64) 3 w' w6.heap.size (fun _ => True) v ys
 c11 : ∀ p, o11 = some p → w6.heap.size ≤ p ∧ w'.heap[p]? = some (.cells #[.slice none 0 0, .slice none 0 0] 29 (0, 0))
section
variable {w6 : World} {lo gb rs : Nat} {cs cr : Array Value} {va : Value} {al : List Int} {gs : List SG} {ys : List Int} {o46 o47 o51 : Option Value} {o11 : Option Nat} {w1 w2 : World} {v : Value}
theorem RdQ.below (h : RdQ w6 lo gb rs cs cr va al gs ys o46 o47 o51 o11 w1) (hb : Below w1.heap.size w1 w2) : RdQ w6 lo gb rs cs cr va al gs ys o46 o47 o51 o11 w2 :=
 ⟨blk_below h.gb hb, blk_below h.rs hb, Kd.R_below h.al hb, below_step h.bel hb, fun v e => Kd.S_below (h.c46 v e) hb, fun v e => Kd.R_below (h.c47 v e) hb, fun v e => Kd.R_below (h.c51 v e) hb, fun p e => ⟨(h.c11 p e).1, blk_below (h.c11 p e).2 hb⟩⟩
theorem RdQ.bare (h : RdQ w6 lo gb rs cs cr va al gs ys o46 o47 o51 o11 w1) : RdQ w6 lo gb rs cs cr va al gs ys none none none none w1 :=
 ⟨h.gb, h.rs, h.al, h.bel, (fun v e => by cases e), (fun v e => by cases e), (fun v e => by cases e), (fun v e => by cases e)⟩
theorem RdQ.set46 (h : RdQ w6 lo gb rs cs cr va al gs ys o46 o47 o51 o11 w1) (hb : Below w1.heap.size w1 w2) (hS : Kd.S kG 76 w2 w1.heap.size (fun _ => True) v gs) : RdQ w6 lo gb rs cs cr va al gs ys (some v) o47 o51 o11 w2 :=
 let h2 := h.below hb
 ⟨h2.gb, h2.rs, h2.al, h2.bel, (fun v e => by cases e; exact Kd.S_lower hS h.bel.size), h2.c47, h2.c51, h2.c11⟩
theorem RdQ.set47 (h : RdQ w6 lo gb rs cs cr va al gs ys o46 o47 o51 o11 w1) (hb : Below w1.heap.size w1 w2) (hR : Kd.R (Kd.int .i64) 3 w2 w1.heap.size (fun _ => True) v []) : RdQ w6 lo gb rs cs cr va al gs ys o46 (some v) o51 o11 w2 :=
 let h2 := h.below hb
 ⟨h2.gb, h2.rs, h2.al, h2.bel, h2.c46, (fun v e => by cases e; exact Kd.R_lower hR h.bel.size), h2.c51, h2.c11⟩
theorem RdQ.set11 (h : RdQ w6 lo gb rs cs cr va al gs ys o46 o47 o51 o11 w1) : RdQ w6 lo gb rs cs cr va al gs ys o46 o47 o51 (some w1.heap.size) (w1.alloc (.cells #[.slice none 0 0, .slice none 0 0] 29)) :=
 let h2 := h.below ((Below.refl _ w1).alloc (Nat.le_refl _) (.cells #[.slice none 0 0, .slice none 0 0] 29))
 ⟨h2.gb, h2.rs, h2.al, h2.bel, h2.c46, h2.c47, h2.c51, fun p e => by cases e; exact ⟨h.bel.size, blk_new w1 (.cells #[.slice none 0 0, .slice none 0 0] 29)⟩⟩
theorem RdQ.set51 {v1 : Value} (h : RdQ w6 lo gb rs cs cr va al gs ys o46 (some v) o51 o11 w1) (hgb : gb < w6.heap.size) (hrs : rs < w6.heap.size) (hg : w1.grownBy w2 v.ownBlock) (hB : Below w6.heap.size w6 w2) (hR : Kd.R (Kd.int .i64) 3 w2 w6.heap.size (fun _ => True) v1 ys) : RdQ w6 lo gb rs cs cr va al gs ys o46 none (some v1) o11 w2 := by
 have h7 := h.c47 v rfl
 have hb := Kd.R_base h7
 have ht := Kd.R_typed h7
 refine ⟨(hg.block gb (blk_lt h.gb) (fun e => by have := hb gb e.symm; omega)).trans h.gb, (hg.block rs (blk_lt h.rs) (fun e => by have := hb rs e.symm; omega)).trans h.rs, Kd.R_mono (Kd.R_grown h.al hg (fun k hk e => by have := hb k e.symm; omega)) (fun _ hk => hk), hB, fun u e => Kd.S_over' (h.c46 u e) ht (by decide) hg, (fun u e => by cases e), (fun u e => by cases e; exact hR), fun p e => ?_⟩
 obtain ⟨p1, p2⟩ := h.c11 p e
 refine ⟨p1, (hg.block p (blk_lt p2) (fun e => ?_)).trans p2⟩
 obtain ⟨cells, hc⟩ := ht p e.symm
 rw [p2] at hc
 simp at hc
end
structure RdP (w : World) (p : Nat) (v46 v51 : Value) (gs : List SG) (ys : List Int) (a : Addr) (y : Int) (w' : World) : Prop where
 lb : LB w' w.heap.size (fun _ => True) v46 v51 gs ys
 pb : w'.heap[p]? = some (.cells #[v46, v51] 29 (0, 0))
 ax : w'.cell? a = some (.int .i64 y)
 bel : Below w.heap.size w w'
theorem RdP.put {w : World} {p rs : Nat} {v46 v51 u0 u1 : Value} {gs : List SG} {ys : List Int} {a : Addr} {y : Int} {w1 : World} (h : RdP w p v46 v51 gs ys a y w1) (RS : w1.heap[rs]? = some (.cells #[u0, u1] 29 (0, 0))) (hp : p ≠ rs) (ha : a.block ≠ rs) (hw : w.heap.size ≤ rs) : RdP w p v46 v51 gs ys a y ((w1.setCell ⟨rs, 0, none⟩ v46).setCell ⟨rs, 1, none⟩ v51) :=
 ⟨LB.put h.lb RS, ((Below.heap_setCell _ ⟨rs, 1, none⟩ _ p hp).trans (Below.heap_setCell _ ⟨rs, 0, none⟩ _ p hp)).trans h.pb, ((cell_far (p := ⟨rs, 1, none⟩) (a := a) (fun e => ha e) _).trans (cell_far (p := ⟨rs, 0, none⟩) (a := a) (fun e => ha e) _)).trans h.ax, (h.bel.setCell (p := ⟨rs, 0, none⟩) hw _).setCell (p := ⟨rs, 1, none⟩) hw _⟩
structure FkAt (w1 : World) (Rs : List Rw) (k0 : Nat) (off : Int) (k : Nat) (v8 : Value) (wr : World) : Prop where
 st : ∃ m : Nat, v8 = .int .i64 m ∧ m + k = Rs.length ∧ k0 ≤ m ∧ ∀ j, k0 ≤ j → j < m → stAt Rs (j - 1) ≤ off
 bel : Below w1.heap.size w1 wr
structure FlAt (w1 : World) (Rs : List Rw) (n : Nat) (off : Int) (k : Nat) (v9 v10 : Value) (wr : World) : Prop where
 st : ∃ i line : Nat, v9 = .int .i64 line ∧ v10 = .int .i64 i ∧ i + k = n ∧ ((i = 0 ∧ line = 0) ∨ (0 < i ∧ line < i ∧ stAt Rs line ≤ off ∧ (line + 1 = i ∨ off < stAt Rs (line + 1))))
 bel : Below w1.heap.size w1 wr
set_option maxHeartbeats 16000000 in
set_option maxRecDepth 100000 in
theorem l4Find_any (w : World) (gs : List SG) (A0 : Option Addr) (c0 : Nat) (st : List Int) (A1 : Option Addr) (c1 : Nat) (off : Int) (hg0 : kG.C w A0 gs.length gs) (hc0 : gs.length ≤ c0) (hs : (Kd.int .i64).C w A1 st.length st) (hc1 : st.length ≤ c1)
  (hok : okLn gs st) (ho : 0 ≤ off ∧ off ≤ totL gs) :
  Calls Tryd.prog 21 #[.agg #[.slice A0 gs.length c0, .slice A1 st.length c1], .int .i64 off] w fun e w' => ∃ (k line : Nat) (v0 v1 : Value), e = .returned (.tuple #[.agg #[v0, v1], .int .i64 line, .int .i64 (off - stAt (gs.map rwOf) line)]) ∧ Known (gs.map rwOf) st.length off k ∧ LineOf (gs.map rwOf) k off line ∧ LB w' w.heap.size (fun _ => True) v0 v1 gs (sts (gs.map rwOf) k) ∧ Below w.heap.size w w' := by
 obtain ⟨wa, ea⟩ : ∃ y, w.alloc (.cells #[.slice A0 gs.length c0, .slice A1 st.length c1] 29) = y := ⟨_, rfl⟩
 have hba : Below w.heap.size w wa := by subst ea; exact (Below.refl _ w).alloc (Nat.le_refl _) _
 have bka : wa.heap[w.heap.size]? = some (.cells #[.slice A0 gs.length c0, .slice A1 st.length c1] 29 (0, 0)) := by subst ea; exact blk_new w (.cells #[.slice A0 gs.length c0, .slice A1 st.length c1] 29)
 obtain ⟨w0, e0⟩ : ∃ y, wa.alloc (.cells #[.slice none 0 0, .slice none 0 0] 29) = y := ⟨_, rfl⟩
 have hb0 : Below wa.heap.size wa w0 := by subst e0; exact (Below.refl _ wa).alloc (Nat.le_refl _) _
 obtain ⟨rs, hrs⟩ : ∃ z, wa.heap.size = z := ⟨_, rfl⟩
 have RS0 := Aside0.mk (show w0.heap[rs]? = some (.cells #[.slice none 0 0, .slice none 0 0] 29 (0, 0)) by subst e0; rw [← hrs]; exact blk_new wa (.cells #[.slice none 0 0, .slice none 0 0] 29))
 have HB0 := Aside0.mk (below_step hba hb0)
 have HX := Aside0.mk (blk_below bka hb0)
 have HRS := Aside0.mk (show w.heap.size ≤ rs by rw [← hrs]; exact hba.size)
 have HRL := Aside0.mk (show w.heap.size < w0.heap.size ∧ rs < w0.heap.size from ⟨blk_lt HX.out, blk_lt RS0.out⟩)
 have q0 : w0.cell? ⟨w.heap.size, 0, none⟩ = some (.slice A0 gs.length c0) := (blk_cell HX.out 0).trans rfl
 have q1 : w0.cell? ⟨w.heap.size, 1, none⟩ = some (.slice A1 st.length c1) := (blk_cell HX.out 1).trans rfl
 have HR := Aside0.mk (Kd.C_below hg0 HB0.out)
 have HR2 := Aside0.mk (Kd.C_below hs HB0.out)
 have HOK := Aside0.mk hok
 have HF := Aside0.mk hok.fine
 have HK0 := Aside0.mk hok.2.1
 have HN := Aside0.mk hok.1.2
 clear hg0 hs hba hb0 bka hok
 go_enter Tryd.func21, Tryd.ntmps21
 go_wp2_with fail
 refine (lineAll_any w0 gs A0 c0 st A1 c1 HR.out hc0 HR2.out hc1 HF.out).mono ?_
 rintro e w1 ⟨va, rfl, hRa, hb1⟩
 obtain ⟨Rs, HRs⟩ : ∃ z, Aside0 (gs.map rwOf = z) := ⟨_, ⟨rfl⟩⟩
 have hRl : Rs.length = gs.length := by rw [← HRs.out, List.length_map]
 have HRl := Aside0.mk hRl
 obtain ⟨al, HAL⟩ : ∃ z, Aside0 (sts Rs gs.length = z) := ⟨_, ⟨rfl⟩⟩
 rw [HRs.out, HAL.out] at hRa
 have hall : al.length = gs.length := by rw [← HAL.out, sts_length]
 have HALL := Aside0.mk hall
 obtain ⟨ad, ca, rfl⟩ : ∃ ad ca, va = .slice (some ad) al.length ca := by
  obtain ⟨Aa, ca, rfl⟩ := Kd.R_slice hRa
  obtain ⟨ad, ea, -⟩ := Kd.at_int (Kd.R_reads' hRa).2.2 0 (by omega) (by have := HK0.out; omega)
  exact ⟨ad, ca, by rw [ea]⟩
 have HCA := Aside0.mk (show al.length ≤ ca from (Kd.R_reads' hRa).2.1)
 have HRA := Aside0.mk hRa
 have HB1 := Aside0.mk (below_step HB0.out hb1)
 have RS1 := Aside0.mk (blk_below RS0.out hb1)
 have HX1 := Aside0.mk (blk_below HX.out hb1)
 have HS1 := Aside0.mk hb1.size
 have HB01 := Aside0.mk hb1
 have AX : Aside0 (∀ W, Below w1.heap.size w1 W → ∀ i, i < gs.length → W.cell? (ad.add i) = some (.int .i64 (stAt Rs i))) := ⟨fun W hW i hi => by
  obtain ⟨a2, e2, hx⟩ := Kd.at_int (Kd.R_reads' (Kd.R_below HRA.out hW)).2.2 (i : Int) (by omega) (by rw [HALL.out]; omega)
  cases e2
  rw [Int.toNat_natCast] at hx
  have h2 : W.cell? (ad.add i) = some (.int .i64 (al.getD i 0)) := hx.trans (by simp [rdOf, rd])
  have := sts_get Rs gs.length i hi
  rw [HAL.out] at this
  rw [this] at h2
  exact h2⟩
 have STB : Aside0 (∀ i, i ≤ gs.length → 0 ≤ stAt Rs i ∧ stAt Rs i ≤ 1000000) := ⟨fun i hi => by
  have h1 := stAt_nn Rs i
  have h2 := stAt_mono Rs (i := i) (j := gs.length) hi
  have h3 := HOK.out.tot
  unfold totL at h3
  rw [HRs.out] at h3
  omega⟩
 have q2 : w1.cell? ⟨w.heap.size, 1, none⟩ = some (.slice A1 st.length c1) := (blk_cell HX1.out 1).trans rfl
 have ATK : Aside0 (FkAt w1 Rs st.length off (gs.length - st.length) (.int .i64 st.length) w1) := ⟨⟨⟨st.length, rfl, by have := HK0.out; have := HRl.out; omega, Nat.le_refl _, fun j h1 h2 => by omega⟩, Below.refl _ _⟩⟩
 have h0ff := ho
 rw [show totL gs = stAt Rs gs.length - 1 by unfold totL; rw [HRs.out]] at h0ff
 have HOFF := Aside0.mk h0ff
 have ho2 : 0 ≤ off ∧ off ≤ 1000000 := by have := STB.out gs.length (Nat.le_refl _); omega
 clear q0 q1 hb1 hRa hRl hall ea e0 hrs ho h0ff
 go_wp2
 go_loopg [8] (gs.length - st.length) (fun k v8 wr => FkAt w1 Rs st.length off k v8 wr)
 case atStart => exact ATK.out
 case round =>
  clear ATK
  obtain ⟨⟨m, rfl, hk, hm0, hall⟩, hB⟩ := hrel
  have HK := Aside0.mk hk
  have HM0 := Aside0.mk hm0
  have HAL2 := Aside0.mk hall
  have HB := Aside0.mk hB
  have hm1 : 0 < m := by have := HK0.out; omega
  have hmb : m ≤ 8193 := by have := HN.out; have := HRl.out; omega
  clear hk hm0 hall hB
  obtain ⟨m', rfl⟩ : ∃ m', m = m' + 1 := ⟨m - 1, by omega⟩
  by_cases cm : m' + 1 < gs.length
  ·obtain ⟨z, HZ⟩ : ∃ z, Aside0 (stAt Rs m' = z) := ⟨_, ⟨rfl⟩⟩
   have hx := AX.out wr HB.out m' (by omega)
   rw [HZ.out] at hx
   have zb : 0 ≤ z ∧ z ≤ 1000000 := by rw [← HZ.out]; exact STB.out m' (by omega)
   have d1 : m' + 1 < al.length := by rw [HALL.out]; exact cm
   have d2 : m' < al.length := by omega
   by_cases cz : z ≤ off
   ·have HZO := Aside0.mk cz
    go_wp2
    go_roundg (gs.length - (m' + 2))
    case measure => have := HK.out; have := HRl.out; omega
    case rel =>
     refine ⟨⟨m' + 2, by go_num, by have := HRl.out; omega, by have := HM0.out; omega, fun j h1 h2 => ?_⟩, HB.out⟩
     by_cases e : j < m' + 1
     ·exact HAL2.out j h1 e
     ·obtain rfl : j = m' + 1 := by omega
      rw [Nat.add_sub_cancel, HZ.out]; exact HZO.out
   ·have d7 : off < z := by omega
    have HKN := Aside0.mk (show Known Rs st.length off (m' + 1) from ⟨HM0.out, by have := HRl.out; omega, HAL2.out, .inr (by rw [Nat.add_sub_cancel, HZ.out]; omega)⟩)
    obtain ⟨wq, hwq⟩ : ∃ z, z = wr := ⟨_, rfl⟩
    subst hwq
    have hkn : m' + 1 ≤ gs.length := by have := HKN.out.hi; have := HRl.out; omega
    have HKL := Aside0.mk hkn
    have ATL : Aside0 (FlAt wq Rs (m' + 1) off (m' + 1) (.int .i64 0) (.int .i64 0) wq) := ⟨⟨⟨0, 0, rfl, rfl, by omega, .inl ⟨rfl, rfl⟩⟩, Below.refl _ _⟩⟩
    clear hkn
    go_wp2
    go_loopg [9, 10] (m' + 1) (fun k v9 v10 w3x => FlAt wq Rs (m' + 1) off k v9 v10 w3x)
    case atStart => exact ATL.out
    case round =>
     clear ATL
     obtain ⟨⟨i, line, rfl, rfl, hki, hli⟩, hB3⟩ := hrel
     have HB3 := Aside0.mk (below_step HB.out hB3)
     have HBr := Aside0.mk hB3
     have HKI := Aside0.mk hki
     have HLI := Aside0.mk hli
     have lnb : line ≤ 8193 := by omega
     clear hki hli hB3
     by_cases ci : i < m' + 1
     ·have hi2 : i < gs.length := by have := HKL.out; omega
      have hx := AX.out wr HB3.out i hi2
      obtain ⟨y, HY⟩ : ∃ y, Aside0 (stAt Rs i = y) := ⟨_, ⟨rfl⟩⟩
      rw [HY.out] at hx
      have e1 : i < al.length := by rw [HALL.out]; exact hi2
      by_cases cy : y ≤ off
      ·have HCY := Aside0.mk cy
       go_wp2
       go_roundg (m' + 1 - (i + 1))
       case measure => have := HKI.out; omega
       case rel => exact ⟨⟨i + 1, i, by go_num, by go_num, by have := HKI.out; omega, .inr ⟨by omega, by omega, by rw [HY.out]; exact HCY.out, .inl rfl⟩⟩, HBr.out⟩
      ·have cy2 : off < y := by omega
       have HCY := Aside0.mk cy2
       go_wp2
       go_roundg (m' + 1 - (i + 1))
       case measure => have := HKI.out; omega
       case rel =>
        refine ⟨⟨i + 1, line, by go_num, by go_num, by have := HKI.out; omega, .inr ?_⟩, HBr.out⟩
        rcases HLI.out with ⟨h1, h2⟩ | ⟨h1, h2, h3, h4⟩
        ·exfalso
         subst h1
         have := HY.out
         simp only [stAt] at this
         have := HCY.out
         omega
        ·refine ⟨by omega, by omega, h3, .inr ?_⟩
         rcases h4 with h4 | h4
         ·rw [h4, HY.out]; exact HCY.out
         ·exact h4
     ·have HLO : Aside0 (LineOf Rs (m' + 1) off line) := ⟨by
       have := HKI.out
       rcases HLI.out with ⟨h1, h2⟩ | ⟨h1, h2, h3, h4⟩
       ·omega
       ·refine ⟨by omega, h3, ?_⟩
        rcases h4 with h4 | h4
        ·exact .inl (by omega)
        ·exact .inr h4⟩
      have ci2 : ¬ i < m' + 1 := ci
      go_wp2
      obtain ⟨w6, e6⟩ : ∃ z, wr.drew = z := ⟨_, rfl⟩
      have HB6 := Aside0.mk (show Below w1.heap.size w1 w6 by rw [← e6]; exact HB3.out.drew)
      have HL6 := Aside0.mk (show w0.heap.size ≤ w6.heap.size from Nat.le_trans HS1.out HB6.out.size)
      have ar : Kd.R (Kd.int .i64) 3 w6 w0.heap.size (fun k => k < w6.heap.size) (.slice (some ad) al.length ca) al := Kd.R_mono (Kd.R_bound (Kd.R_below HRA.out HB6.out)) (fun k hk => hk.2.2.1)
      have z_ : RdQ w6 w0.heap.size w.heap.size rs #[.slice A0 gs.length c0, .slice A1 st.length c1] #[.slice none 0 0, .slice none 0 0] (.slice (some ad) al.length ca) al gs (al.take (m' + 1)) none none none none w6 := ⟨blk_below HX1.out HB6.out, blk_below RS1.out HB6.out, ar, Below.refl _ _, (fun v e => by cases e), (fun v e => by cases e), (fun v e => by cases e), (fun v e => by cases e)⟩
      have GB6 := Aside0.mk (show w.heap.size < w6.heap.size ∧ rs < w6.heap.size by have := HRL.out; have := HL6.out; omega)
      have f1 : 0 ≤ ((m' + 1 : Nat) : Int) := by omega
      have f2 : m' + 1 ≤ al.length := by rw [HALL.out]; exact HKL.out
      have f3 : m' + 1 ≤ ca := Nat.le_trans f2 HCA.out
      have f4 : (0 : Int) ≤ (m' : Int) + 1 := by omega
      have f5 : (m' : Int) + 1 ≤ (ca : Int) := by omega
      have HM := Aside0.mk (show m' + 1 ≤ 8193 by omega)
      have HF2 := Aside0.mk f2
      clear ar
      refine start_ (n := 11) (S := fun w' => w'.cell? ⟨w.heap.size, 0, none⟩ = some (.slice A0 gs.length c0) ∧ RdQ w6 w0.heap.size w.heap.size rs #[.slice A0 gs.length c0, .slice A1 st.length c1] #[.slice none 0 0, .slice none 0 0] (.slice (some ad) al.length ca) al gs (al.take (m' + 1)) none none none none w') (ds := [10]) #[false, false, false, false, false, false, false, false, false, false, false] (by kernel_rfl) rfl rfl ⟨(by rw [e6]; exact (blk_cell z_.gb 0).trans rfl), (by rw [e6]; exact z_)⟩ (fun hHeld => ?_)
      rw [e6] at hHeld ⊢
      clear e6
      refine pure_ (i := 0) (N := some 44) (v := ?_) (a' := ?_) #[true, false, false, false, false, false, false, false, false, false, false] rfl rfl (by kernel_rfl) (fun _ _ _ h => h) (Or.inl ⟨by rfl, ?_⟩) ?_ ?_
      rotate_left
      ·intro w'
       go_simp
       with_reducible rfl
      rotate_left
      ·simp only [Act.put, List.setIfInBounds_toArray, List.set_cons_zero, List.set_cons_succ, i64_w, i32_w]
       rfl
      refine pure_ (i := 4) (N := some 48) (v := ?_) (a' := ?_) #[true, false, false, false, true, false, false, false, false, false, false] rfl rfl (by kernel_rfl) (fun _ _ _ h => h) (Or.inl ⟨by rfl, ?_⟩) ?_ ?_
      rotate_left
      ·intro w'
       go_simp
       with_reducible rfl
      rotate_left
      ·simp only [Act.put, List.setIfInBounds_toArray, List.set_cons_zero, List.set_cons_succ, i64_w, i32_w]
       rfl
      refine pure_ (i := 5) (N := some 49) (v := ?_) (a' := ?_) #[true, false, false, false, true, true, false, false, false, false, false] rfl rfl (by kernel_rfl) (fun _ _ _ h => h) (Or.inl ⟨by rfl, ?_⟩) ?_ ?_
      rotate_left
      ·intro w'
       go_simp
       with_reducible rfl
      rotate_left
      ·simp only [Act.put, List.setIfInBounds_toArray, List.set_cons_zero, List.set_cons_succ, i64_w, i32_w]
       rfl
      refine pure_ (i := 6) (N := some 50) (v := ?_) (a' := ?_) #[true, false, false, false, true, true, true, false, false, false, false] rfl rfl (by kernel_rfl) (fun _ _ _ h => h) (Or.inl ⟨by rfl, ?_⟩) ?_ ?_
      rotate_left
      ·intro w'
       go_simp
       with_reducible rfl
      rotate_left
      ·simp only [Act.put, List.setIfInBounds_toArray, List.set_cons_zero, List.set_cons_succ, i64_w, i32_w]
       rfl
      refine take_ (i := 1) (N := some 45) (v := ?_) (a' := ?_) #[true, true, false, false, true, true, true, false, false, false, false] rfl rfl (by kernel_rfl) (fun _ _ _ h => h) (Or.inl ⟨by rfl, ?_⟩) hHeld ?_ ?_
      rotate_left
      ·rintro w' ⟨s0, s1⟩
       go_simp
       with_reducible rfl
      rotate_left
      ·simp only [Act.put, List.setIfInBounds_toArray, List.set_cons_zero, List.set_cons_succ, i64_w, i32_w]
       rfl
      refine join_ (σ := (Option Addr × Nat) × (Option Addr × Nat) × (Option Addr × Nat) × Nat) 1 #[true, true, true, true, true, true, true, true, true, true, false] (fun s => [(46, .slice s.1.1 gs.length s.1.2), (47, .slice s.2.1.1 0 s.2.1.2), (51, .slice s.2.2.1.1 (m' + 1) s.2.2.1.2), (52, .agg #[.slice s.1.1 gs.length s.1.2, .slice s.2.2.1.1 (m' + 1) s.2.2.1.2]), (11, .pointer (some ⟨s.2.2.2, 0, none⟩))]) (fun s w' => (w'.cell? ⟨w.heap.size, 0, none⟩ = some (.slice A0 gs.length c0) ∧ RdQ w6 w0.heap.size w.heap.size rs #[.slice A0 gs.length c0, .slice A1 st.length c1] #[.slice none 0 0, .slice none 0 0] (.slice (some ad) al.length ca) al gs (al.take (m' + 1)) none none none none w') ∧ RdQ w6 w0.heap.size w.heap.size rs #[.slice A0 gs.length c0, .slice A1 st.length c1] #[.slice none 0 0, .slice none 0 0] (.slice (some ad) al.length ca) al gs (al.take (m' + 1)) (some (.slice s.1.1 gs.length s.1.2)) none (some (.slice s.2.2.1.1 (m' + 1) s.2.2.1.2)) (some s.2.2.2) w') ?_ ?_
      rotate_left
      ·intro hCont
       refine three_ (i := 2) (j := 3) (k := 9) (Ni := some 46) (Nj := some 47) (Nk := some 11) #[true, true, true, false, true, true, true, false, false, false, false] #[true, true, false, true, true, true, true, false, false, false, false] #[true, true, false, false, true, true, true, false, false, true, false] rfl rfl rfl rfl rfl rfl (by kernel_rfl) (by decide) (by decide) (by decide) (fun K hK => ?_) (fun K hK => ?_) (fun K hK => ?_)
       ·skip
        refine goes_ Tryd.func51 (by kernel_rfl) rfl #[.slice A0 gs.length c0] (by rfl) rfl rfl (by simp only [List.map_toArray, List.map_cons, List.map_nil]; rfl) ?_
        with_reducible refine (copyRows_any _ gs A0 c0 (Kd.C_below HR.out ((HB01.out.trans (Below.mono HB6.out HB01.out.size)).trans (Below.mono hHeld.2.bel HL6.out))) hc0 HF.out).mono ?_
        rintro e w27 ⟨v46, rfl, hS, hb⟩
        refine ⟨_, rfl, ?_⟩
        obtain ⟨A46, c46, e46⟩ := Kd.S_slice hS
        subst e46
        have z_2 := RdQ.set46 z_ hb hS
        clear hb hS
        refine hK.out _ _ ⟨(blk_cell z_2.gb 0).trans rfl, z_2.bare⟩ (fun hHeld => ?_)
        clear hK K
        refine norm_ (a' := ?_) ?_ ?_
        rotate_left
        ·show Act.put _ (some 46) _ = _
         simp only [Act.put, List.setIfInBounds_toArray, List.set_cons_zero, List.set_cons_succ, i64_w, i32_w]
         rfl
        refine two_ (i := 3) (j := 9) (Ni := some 47) (Nj := some 11) #[true, true, true, true, true, true, true, false, false, false, false] #[true, true, true, false, true, true, true, false, false, true, false] rfl rfl rfl rfl (by kernel_rfl) (by decide) (by decide) (fun K hK => ?_) (fun K hK => ?_)
        ·skip
         refine Kd.R_lit_step (Kd.int .i64) _ 3 ?hg (N := 47) ?hd (xs := ([] : List Int)) (inner := []) (ok := fun _ => True) (okp := fun _ => True) ?hr ?hp (fun _ hk => hk) trivial (Below.refl _ _) (Nat.le_refl _) (by simp) ?_
         (case hd => rfl)
         (case hg => rfl)
         (case hr => first | (go_simp; done) | (go_simp; rfl))
         (case hp => exact (Reps.none _ _))
         intro v47 w38 hR hb _ _
         obtain ⟨A47, c47, e47⟩ : ∃ A c, v47 = .slice A 0 c := Kd.R_slice hR
         subst e47
         have z_2_3 := RdQ.set47 z_2 hb hR
         clear hb hR
         refine hK.out _ _ ⟨(blk_cell z_2_3.gb 0).trans rfl, z_2_3.bare⟩ (fun hHeld => ?_)
         clear hK K
         refine norm_ (a' := ?_) ?_ ?_
         rotate_left
         ·show Act.put _ (some 47) _ = _
          simp only [Act.put, List.setIfInBounds_toArray, List.set_cons_zero, List.set_cons_succ, i64_w, i32_w]
          rfl
         refine two_ (i := 7) (j := 9) (Ni := some 51) (Nj := some 11) #[true, true, true, true, true, true, true, true, false, false, false] #[true, true, true, true, true, true, true, false, false, true, false] rfl rfl rfl rfl (by kernel_rfl) (by decide) (by decide) (fun K hK => ?_) (fun K hK => ?_)
         ·skip
          refine Kd.R_append_rows_step (Kd.int .i64) (w0 := w6) w6.heap.size (by rfl) (.tmp 47) (.tmp 50) 23 3 (.int .i64 0) 8 rfl Tryd.underlying23 Go.Proofs.YtamcacahjlaogaaDoor.Ln.info3 rfl (by decide) (by decide) (.slice A47 0 c47) [] (al.take (m' + 1)) (some ad) (m' + 1) ca (fun _ => True) (fun _ => False) ?sE ?xE ?hO ?hR (fun _ _ h => h) (fun _ h => h.elim) (fun _ _ => trivial) ?hB ?hb ?hL ?_
          case sE => rfl
          case xE => rfl
          case hO => exact z_2_3.c47 _ rfl
          case hR => exact C_pre (Kd.R_reads' z_2_3.al).2.2 (m' + 1) HF2.out
          case hB => exact z_2_3.bel
          case hb => exact z_2_3.bel.size
          case hL => have := HM.out; simp only [List.length_nil]; omega
          intro v51 w79 hR51 hb51 hg51 _
          rw [List.nil_append] at hR51
          obtain ⟨A51, c51, e51⟩ : ∃ A c, v51 = .slice A (m' + 1) c := by have h := Kd.R_slice hR51; rw [List.length_take, Nat.min_eq_left HF2.out] at h; exact h
          subst e51
          have z_2_3_7 := RdQ.set51 z_2_3 GB6.out.1 GB6.out.2 hg51 hb51 hR51
          clear hR51 hb51 hg51
          refine hK.out _ _ ⟨(blk_cell z_2_3_7.gb 0).trans rfl, z_2_3_7.bare⟩ (fun hHeld => ?_)
          clear hK K
          refine norm_ (a' := ?_) ?_ ?_
          rotate_left
          ·show Act.put _ (some 51) _ = _
           simp only [Act.put, List.setIfInBounds_toArray, List.set_cons_zero, List.set_cons_succ, i64_w, i32_w]
           rfl
          refine pure_ (i := 8) (N := some 52) (v := ?_) (a' := ?_) #[true, true, true, true, true, true, true, true, true, false, false] rfl rfl (by kernel_rfl) (fun _ _ _ h => h) (Or.inl ⟨by rfl, ?_⟩) ?_ ?_
          rotate_left
          ·intro w'
           go_simp
           with_reducible rfl
          rotate_left
          ·simp only [Act.put, List.setIfInBounds_toArray, List.set_cons_zero, List.set_cons_succ, i64_w, i32_w]
           rfl
          refine one_ (i := 9) (N := some 11) #[true, true, true, true, true, true, true, true, true, true, false] rfl rfl (by kernel_rfl) (by decide) (fun K hK => ?_)
          refine value_ (w1 := ?_) (v := ?_) (by rfl) rfl ?_ ?_
          rotate_left 2
          ·go_simp
           constructor
           ·rfl
           ·rfl
          have z_2_3_7_9 := RdQ.set11 z_2_3_7
          obtain ⟨p, hp⟩ : ∃ x, (w79).heap.size = x := ⟨_, rfl⟩
          obtain ⟨w100, hw⟩ : ∃ x, World.alloc w79 (.cells #[.slice none 0 0, .slice none 0 0] 29) = x := ⟨_, rfl⟩
          rw [hp, hw] at z_2_3_7_9
          rw [hp, hw]
          clear hp hw
          refine hK.out _ _ ⟨(blk_cell z_2_3_7_9.gb 0).trans rfl, z_2_3_7_9.bare⟩ (fun hHeld => ?_)
          clear hK K
          refine norm_ (a' := ?_) ?_ ?_
          rotate_left
          ·show Act.put _ (some 11) _ = _
           simp only [Act.put, List.setIfInBounds_toArray, List.set_cons_zero, List.set_cons_succ, i64_w, i32_w]
           rfl
          exact norm_ (by simp only [putAll, Act.put, List.setIfInBounds_toArray, List.set_cons_zero, List.set_cons_succ]) (hCont ((A46, c46), (A47, c47), (A51, c51), p) _ ⟨hHeld, z_2_3_7_9⟩)
         ·skip
          refine value_ (w1 := ?_) (v := ?_) (by rfl) rfl ?_ ?_
          rotate_left 2
          ·go_simp
           constructor
           ·rfl
           ·rfl
          have z_2_3_9 := RdQ.set11 z_2_3
          obtain ⟨p, hp⟩ : ∃ x, (w38).heap.size = x := ⟨_, rfl⟩
          obtain ⟨w99, hw⟩ : ∃ x, World.alloc w38 (.cells #[.slice none 0 0, .slice none 0 0] 29) = x := ⟨_, rfl⟩
          rw [hp, hw] at z_2_3_9
          rw [hp, hw]
          clear hp hw
          refine hK.out _ _ ⟨(blk_cell z_2_3_9.gb 0).trans rfl, z_2_3_9.bare⟩ (fun hHeld => ?_)
          clear hK K
          refine norm_ (a' := ?_) ?_ ?_
          rotate_left
          ·show Act.put _ (some 11) _ = _
           simp only [Act.put, List.setIfInBounds_toArray, List.set_cons_zero, List.set_cons_succ, i64_w, i32_w]
           rfl
          refine one_ (i := 7) (N := some 51) #[true, true, true, true, true, true, true, true, false, true, false] rfl rfl (by kernel_rfl) (by decide) (fun K hK => ?_)
          refine Kd.R_append_rows_step (Kd.int .i64) (w0 := w6) w6.heap.size (by rfl) (.tmp 47) (.tmp 50) 23 3 (.int .i64 0) 8 rfl Tryd.underlying23 Go.Proofs.YtamcacahjlaogaaDoor.Ln.info3 rfl (by decide) (by decide) (.slice A47 0 c47) [] (al.take (m' + 1)) (some ad) (m' + 1) ca (fun _ => True) (fun _ => False) ?sE ?xE ?hO ?hR (fun _ _ h => h) (fun _ h => h.elim) (fun _ _ => trivial) ?hB ?hb ?hL ?_
          case sE => rfl
          case xE => rfl
          case hO => exact z_2_3_9.c47 _ rfl
          case hR => exact C_pre (Kd.R_reads' z_2_3_9.al).2.2 (m' + 1) HF2.out
          case hB => exact z_2_3_9.bel
          case hb => exact z_2_3_9.bel.size
          case hL => have := HM.out; simp only [List.length_nil]; omega
          intro v51 w80 hR51 hb51 hg51 _
          rw [List.nil_append] at hR51
          obtain ⟨A51, c51, e51⟩ : ∃ A c, v51 = .slice A (m' + 1) c := by have h := Kd.R_slice hR51; rw [List.length_take, Nat.min_eq_left HF2.out] at h; exact h
          subst e51
          have z_2_3_9_7 := RdQ.set51 z_2_3_9 GB6.out.1 GB6.out.2 hg51 hb51 hR51
          clear hR51 hb51 hg51
          refine hK.out _ _ ⟨(blk_cell z_2_3_9_7.gb 0).trans rfl, z_2_3_9_7.bare⟩ (fun hHeld => ?_)
          clear hK K
          refine norm_ (a' := ?_) ?_ ?_
          rotate_left
          ·show Act.put _ (some 51) _ = _
           simp only [Act.put, List.setIfInBounds_toArray, List.set_cons_zero, List.set_cons_succ, i64_w, i32_w]
           rfl
          refine pure_ (i := 8) (N := some 52) (v := ?_) (a' := ?_) #[true, true, true, true, true, true, true, true, true, true, false] rfl rfl (by kernel_rfl) (fun _ _ _ h => h) (Or.inl ⟨by rfl, ?_⟩) ?_ ?_
          rotate_left
          ·intro w'
           go_simp
           with_reducible rfl
          rotate_left
          ·simp only [Act.put, List.setIfInBounds_toArray, List.set_cons_zero, List.set_cons_succ, i64_w, i32_w]
           rfl
          exact norm_ (by simp only [putAll, Act.put, List.setIfInBounds_toArray, List.set_cons_zero, List.set_cons_succ]) (hCont ((A46, c46), (A47, c47), (A51, c51), p) _ ⟨hHeld, z_2_3_9_7⟩)
        ·skip
         refine value_ (w1 := ?_) (v := ?_) (by rfl) rfl ?_ ?_
         rotate_left 2
         ·go_simp
          constructor
          ·rfl
          ·rfl
         have z_2_9 := RdQ.set11 z_2
         obtain ⟨p, hp⟩ : ∃ x, (w27).heap.size = x := ⟨_, rfl⟩
         obtain ⟨w98, hw⟩ : ∃ x, World.alloc w27 (.cells #[.slice none 0 0, .slice none 0 0] 29) = x := ⟨_, rfl⟩
         rw [hp, hw] at z_2_9
         rw [hp, hw]
         clear hp hw
         refine hK.out _ _ ⟨(blk_cell z_2_9.gb 0).trans rfl, z_2_9.bare⟩ (fun hHeld => ?_)
         clear hK K
         refine norm_ (a' := ?_) ?_ ?_
         rotate_left
         ·show Act.put _ (some 11) _ = _
          simp only [Act.put, List.setIfInBounds_toArray, List.set_cons_zero, List.set_cons_succ, i64_w, i32_w]
          rfl
         refine one_ (i := 3) (N := some 47) #[true, true, true, true, true, true, true, false, false, true, false] rfl rfl (by kernel_rfl) (by decide) (fun K hK => ?_)
         refine Kd.R_lit_step (Kd.int .i64) _ 3 ?hg (N := 47) ?hd (xs := ([] : List Int)) (inner := []) (ok := fun _ => True) (okp := fun _ => True) ?hr ?hp (fun _ hk => hk) trivial (Below.refl _ _) (Nat.le_refl _) (by simp) ?_
         (case hd => rfl)
         (case hg => rfl)
         (case hr => first | (go_simp; done) | (go_simp; rfl))
         (case hp => exact (Reps.none _ _))
         intro v47 w39 hR hb _ _
         obtain ⟨A47, c47, e47⟩ : ∃ A c, v47 = .slice A 0 c := Kd.R_slice hR
         subst e47
         have z_2_9_3 := RdQ.set47 z_2_9 hb hR
         clear hb hR
         refine hK.out _ _ ⟨(blk_cell z_2_9_3.gb 0).trans rfl, z_2_9_3.bare⟩ (fun hHeld => ?_)
         clear hK K
         refine norm_ (a' := ?_) ?_ ?_
         rotate_left
         ·show Act.put _ (some 47) _ = _
          simp only [Act.put, List.setIfInBounds_toArray, List.set_cons_zero, List.set_cons_succ, i64_w, i32_w]
          rfl
         refine one_ (i := 7) (N := some 51) #[true, true, true, true, true, true, true, true, false, true, false] rfl rfl (by kernel_rfl) (by decide) (fun K hK => ?_)
         refine Kd.R_append_rows_step (Kd.int .i64) (w0 := w6) w6.heap.size (by rfl) (.tmp 47) (.tmp 50) 23 3 (.int .i64 0) 8 rfl Tryd.underlying23 Go.Proofs.YtamcacahjlaogaaDoor.Ln.info3 rfl (by decide) (by decide) (.slice A47 0 c47) [] (al.take (m' + 1)) (some ad) (m' + 1) ca (fun _ => True) (fun _ => False) ?sE ?xE ?hO ?hR (fun _ _ h => h) (fun _ h => h.elim) (fun _ _ => trivial) ?hB ?hb ?hL ?_
         case sE => rfl
         case xE => rfl
         case hO => exact z_2_9_3.c47 _ rfl
         case hR => exact C_pre (Kd.R_reads' z_2_9_3.al).2.2 (m' + 1) HF2.out
         case hB => exact z_2_9_3.bel
         case hb => exact z_2_9_3.bel.size
         case hL => have := HM.out; simp only [List.length_nil]; omega
         intro v51 w80 hR51 hb51 hg51 _
         rw [List.nil_append] at hR51
         obtain ⟨A51, c51, e51⟩ : ∃ A c, v51 = .slice A (m' + 1) c := by have h := Kd.R_slice hR51; rw [List.length_take, Nat.min_eq_left HF2.out] at h; exact h
         subst e51
         have z_2_9_3_7 := RdQ.set51 z_2_9_3 GB6.out.1 GB6.out.2 hg51 hb51 hR51
         clear hR51 hb51 hg51
         refine hK.out _ _ ⟨(blk_cell z_2_9_3_7.gb 0).trans rfl, z_2_9_3_7.bare⟩ (fun hHeld => ?_)
         clear hK K
         refine norm_ (a' := ?_) ?_ ?_
         rotate_left
         ·show Act.put _ (some 51) _ = _
          simp only [Act.put, List.setIfInBounds_toArray, List.set_cons_zero, List.set_cons_succ, i64_w, i32_w]
          rfl
         refine pure_ (i := 8) (N := some 52) (v := ?_) (a' := ?_) #[true, true, true, true, true, true, true, true, true, true, false] rfl rfl (by kernel_rfl) (fun _ _ _ h => h) (Or.inl ⟨by rfl, ?_⟩) ?_ ?_
         rotate_left
         ·intro w'
          go_simp
          with_reducible rfl
         rotate_left
         ·simp only [Act.put, List.setIfInBounds_toArray, List.set_cons_zero, List.set_cons_succ, i64_w, i32_w]
          rfl
         exact norm_ (by simp only [putAll, Act.put, List.setIfInBounds_toArray, List.set_cons_zero, List.set_cons_succ]) (hCont ((A46, c46), (A47, c47), (A51, c51), p) _ ⟨hHeld, z_2_9_3_7⟩)
       ·skip
        refine Kd.R_lit_step (Kd.int .i64) _ 3 ?hg (N := 47) ?hd (xs := ([] : List Int)) (inner := []) (ok := fun _ => True) (okp := fun _ => True) ?hr ?hp (fun _ hk => hk) trivial (Below.refl _ _) (Nat.le_refl _) (by simp) ?_
        (case hd => rfl)
        (case hg => rfl)
        (case hr => first | (go_simp; done) | (go_simp; rfl))
        (case hp => exact (Reps.none _ _))
        intro v47 w37 hR hb _ _
        obtain ⟨A47, c47, e47⟩ : ∃ A c, v47 = .slice A 0 c := Kd.R_slice hR
        subst e47
        have z_3 := RdQ.set47 z_ hb hR
        clear hb hR
        refine hK.out _ _ ⟨(blk_cell z_3.gb 0).trans rfl, z_3.bare⟩ (fun hHeld => ?_)
        clear hK K
        refine norm_ (a' := ?_) ?_ ?_
        rotate_left
        ·show Act.put _ (some 47) _ = _
         simp only [Act.put, List.setIfInBounds_toArray, List.set_cons_zero, List.set_cons_succ, i64_w, i32_w]
         rfl
        refine two_ (i := 2) (j := 9) (Ni := some 46) (Nj := some 11) #[true, true, true, true, true, true, true, false, false, false, false] #[true, true, false, true, true, true, true, false, false, true, false] rfl rfl rfl rfl (by kernel_rfl) (by decide) (by decide) (fun K hK => ?_) (fun K hK => ?_)
        ·skip
         refine goes_ Tryd.func51 (by kernel_rfl) rfl #[.slice A0 gs.length c0] (by rfl) rfl rfl (by simp only [List.map_toArray, List.map_cons, List.map_nil]; rfl) ?_
         with_reducible refine (copyRows_any _ gs A0 c0 (Kd.C_below HR.out ((HB01.out.trans (Below.mono HB6.out HB01.out.size)).trans (Below.mono hHeld.2.bel HL6.out))) hc0 HF.out).mono ?_
         rintro e w28 ⟨v46, rfl, hS, hb⟩
         refine ⟨_, rfl, ?_⟩
         obtain ⟨A46, c46, e46⟩ := Kd.S_slice hS
         subst e46
         have z_3_2 := RdQ.set46 z_3 hb hS
         clear hb hS
         refine hK.out _ _ ⟨(blk_cell z_3_2.gb 0).trans rfl, z_3_2.bare⟩ (fun hHeld => ?_)
         clear hK K
         refine norm_ (a' := ?_) ?_ ?_
         rotate_left
         ·show Act.put _ (some 46) _ = _
          simp only [Act.put, List.setIfInBounds_toArray, List.set_cons_zero, List.set_cons_succ, i64_w, i32_w]
          rfl
         refine two_ (i := 7) (j := 9) (Ni := some 51) (Nj := some 11) #[true, true, true, true, true, true, true, true, false, false, false] #[true, true, true, true, true, true, true, false, false, true, false] rfl rfl rfl rfl (by kernel_rfl) (by decide) (by decide) (fun K hK => ?_) (fun K hK => ?_)
         ·skip
          refine Kd.R_append_rows_step (Kd.int .i64) (w0 := w6) w6.heap.size (by rfl) (.tmp 47) (.tmp 50) 23 3 (.int .i64 0) 8 rfl Tryd.underlying23 Go.Proofs.YtamcacahjlaogaaDoor.Ln.info3 rfl (by decide) (by decide) (.slice A47 0 c47) [] (al.take (m' + 1)) (some ad) (m' + 1) ca (fun _ => True) (fun _ => False) ?sE ?xE ?hO ?hR (fun _ _ h => h) (fun _ h => h.elim) (fun _ _ => trivial) ?hB ?hb ?hL ?_
          case sE => rfl
          case xE => rfl
          case hO => exact z_3_2.c47 _ rfl
          case hR => exact C_pre (Kd.R_reads' z_3_2.al).2.2 (m' + 1) HF2.out
          case hB => exact z_3_2.bel
          case hb => exact z_3_2.bel.size
          case hL => have := HM.out; simp only [List.length_nil]; omega
          intro v51 w79 hR51 hb51 hg51 _
          rw [List.nil_append] at hR51
          obtain ⟨A51, c51, e51⟩ : ∃ A c, v51 = .slice A (m' + 1) c := by have h := Kd.R_slice hR51; rw [List.length_take, Nat.min_eq_left HF2.out] at h; exact h
          subst e51
          have z_3_2_7 := RdQ.set51 z_3_2 GB6.out.1 GB6.out.2 hg51 hb51 hR51
          clear hR51 hb51 hg51
          refine hK.out _ _ ⟨(blk_cell z_3_2_7.gb 0).trans rfl, z_3_2_7.bare⟩ (fun hHeld => ?_)
          clear hK K
          refine norm_ (a' := ?_) ?_ ?_
          rotate_left
          ·show Act.put _ (some 51) _ = _
           simp only [Act.put, List.setIfInBounds_toArray, List.set_cons_zero, List.set_cons_succ, i64_w, i32_w]
           rfl
          refine pure_ (i := 8) (N := some 52) (v := ?_) (a' := ?_) #[true, true, true, true, true, true, true, true, true, false, false] rfl rfl (by kernel_rfl) (fun _ _ _ h => h) (Or.inl ⟨by rfl, ?_⟩) ?_ ?_
          rotate_left
          ·intro w'
           go_simp
           with_reducible rfl
          rotate_left
          ·simp only [Act.put, List.setIfInBounds_toArray, List.set_cons_zero, List.set_cons_succ, i64_w, i32_w]
           rfl
          refine one_ (i := 9) (N := some 11) #[true, true, true, true, true, true, true, true, true, true, false] rfl rfl (by kernel_rfl) (by decide) (fun K hK => ?_)
          refine value_ (w1 := ?_) (v := ?_) (by rfl) rfl ?_ ?_
          rotate_left 2
          ·go_simp
           constructor
           ·rfl
           ·rfl
          have z_3_2_7_9 := RdQ.set11 z_3_2_7
          obtain ⟨p, hp⟩ : ∃ x, (w79).heap.size = x := ⟨_, rfl⟩
          obtain ⟨w100, hw⟩ : ∃ x, World.alloc w79 (.cells #[.slice none 0 0, .slice none 0 0] 29) = x := ⟨_, rfl⟩
          rw [hp, hw] at z_3_2_7_9
          rw [hp, hw]
          clear hp hw
          refine hK.out _ _ ⟨(blk_cell z_3_2_7_9.gb 0).trans rfl, z_3_2_7_9.bare⟩ (fun hHeld => ?_)
          clear hK K
          refine norm_ (a' := ?_) ?_ ?_
          rotate_left
          ·show Act.put _ (some 11) _ = _
           simp only [Act.put, List.setIfInBounds_toArray, List.set_cons_zero, List.set_cons_succ, i64_w, i32_w]
           rfl
          exact norm_ (by simp only [putAll, Act.put, List.setIfInBounds_toArray, List.set_cons_zero, List.set_cons_succ]) (hCont ((A46, c46), (A47, c47), (A51, c51), p) _ ⟨hHeld, z_3_2_7_9⟩)
         ·skip
          refine value_ (w1 := ?_) (v := ?_) (by rfl) rfl ?_ ?_
          rotate_left 2
          ·go_simp
           constructor
           ·rfl
           ·rfl
          have z_3_2_9 := RdQ.set11 z_3_2
          obtain ⟨p, hp⟩ : ∃ x, (w28).heap.size = x := ⟨_, rfl⟩
          obtain ⟨w99, hw⟩ : ∃ x, World.alloc w28 (.cells #[.slice none 0 0, .slice none 0 0] 29) = x := ⟨_, rfl⟩
          rw [hp, hw] at z_3_2_9
          rw [hp, hw]
          clear hp hw
          refine hK.out _ _ ⟨(blk_cell z_3_2_9.gb 0).trans rfl, z_3_2_9.bare⟩ (fun hHeld => ?_)
          clear hK K
          refine norm_ (a' := ?_) ?_ ?_
          rotate_left
          ·show Act.put _ (some 11) _ = _
           simp only [Act.put, List.setIfInBounds_toArray, List.set_cons_zero, List.set_cons_succ, i64_w, i32_w]
           rfl
          refine one_ (i := 7) (N := some 51) #[true, true, true, true, true, true, true, true, false, true, false] rfl rfl (by kernel_rfl) (by decide) (fun K hK => ?_)
          refine Kd.R_append_rows_step (Kd.int .i64) (w0 := w6) w6.heap.size (by rfl) (.tmp 47) (.tmp 50) 23 3 (.int .i64 0) 8 rfl Tryd.underlying23 Go.Proofs.YtamcacahjlaogaaDoor.Ln.info3 rfl (by decide) (by decide) (.slice A47 0 c47) [] (al.take (m' + 1)) (some ad) (m' + 1) ca (fun _ => True) (fun _ => False) ?sE ?xE ?hO ?hR (fun _ _ h => h) (fun _ h => h.elim) (fun _ _ => trivial) ?hB ?hb ?hL ?_
          case sE => rfl
          case xE => rfl
          case hO => exact z_3_2_9.c47 _ rfl
          case hR => exact C_pre (Kd.R_reads' z_3_2_9.al).2.2 (m' + 1) HF2.out
          case hB => exact z_3_2_9.bel
          case hb => exact z_3_2_9.bel.size
          case hL => have := HM.out; simp only [List.length_nil]; omega
          intro v51 w80 hR51 hb51 hg51 _
          rw [List.nil_append] at hR51
          obtain ⟨A51, c51, e51⟩ : ∃ A c, v51 = .slice A (m' + 1) c := by have h := Kd.R_slice hR51; rw [List.length_take, Nat.min_eq_left HF2.out] at h; exact h
          subst e51
          have z_3_2_9_7 := RdQ.set51 z_3_2_9 GB6.out.1 GB6.out.2 hg51 hb51 hR51
          clear hR51 hb51 hg51
          refine hK.out _ _ ⟨(blk_cell z_3_2_9_7.gb 0).trans rfl, z_3_2_9_7.bare⟩ (fun hHeld => ?_)
          clear hK K
          refine norm_ (a' := ?_) ?_ ?_
          rotate_left
          ·show Act.put _ (some 51) _ = _
           simp only [Act.put, List.setIfInBounds_toArray, List.set_cons_zero, List.set_cons_succ, i64_w, i32_w]
           rfl
          refine pure_ (i := 8) (N := some 52) (v := ?_) (a' := ?_) #[true, true, true, true, true, true, true, true, true, true, false] rfl rfl (by kernel_rfl) (fun _ _ _ h => h) (Or.inl ⟨by rfl, ?_⟩) ?_ ?_
          rotate_left
          ·intro w'
           go_simp
           with_reducible rfl
          rotate_left
          ·simp only [Act.put, List.setIfInBounds_toArray, List.set_cons_zero, List.set_cons_succ, i64_w, i32_w]
           rfl
          exact norm_ (by simp only [putAll, Act.put, List.setIfInBounds_toArray, List.set_cons_zero, List.set_cons_succ]) (hCont ((A46, c46), (A47, c47), (A51, c51), p) _ ⟨hHeld, z_3_2_9_7⟩)
        ·skip
         refine value_ (w1 := ?_) (v := ?_) (by rfl) rfl ?_ ?_
         rotate_left 2
         ·go_simp
          constructor
          ·rfl
          ·rfl
         have z_3_9 := RdQ.set11 z_3
         obtain ⟨p, hp⟩ : ∃ x, (w37).heap.size = x := ⟨_, rfl⟩
         obtain ⟨w98, hw⟩ : ∃ x, World.alloc w37 (.cells #[.slice none 0 0, .slice none 0 0] 29) = x := ⟨_, rfl⟩
         rw [hp, hw] at z_3_9
         rw [hp, hw]
         clear hp hw
         refine hK.out _ _ ⟨(blk_cell z_3_9.gb 0).trans rfl, z_3_9.bare⟩ (fun hHeld => ?_)
         clear hK K
         refine norm_ (a' := ?_) ?_ ?_
         rotate_left
         ·show Act.put _ (some 11) _ = _
          simp only [Act.put, List.setIfInBounds_toArray, List.set_cons_zero, List.set_cons_succ, i64_w, i32_w]
          rfl
         refine one_ (i := 2) (N := some 46) #[true, true, true, true, true, true, true, false, false, true, false] rfl rfl (by kernel_rfl) (by decide) (fun K hK => ?_)
         refine goes_ Tryd.func51 (by kernel_rfl) rfl #[.slice A0 gs.length c0] (by rfl) rfl rfl (by simp only [List.map_toArray, List.map_cons, List.map_nil]; rfl) ?_
         with_reducible refine (copyRows_any _ gs A0 c0 (Kd.C_below HR.out ((HB01.out.trans (Below.mono HB6.out HB01.out.size)).trans (Below.mono hHeld.2.bel HL6.out))) hc0 HF.out).mono ?_
         rintro e w29 ⟨v46, rfl, hS, hb⟩
         refine ⟨_, rfl, ?_⟩
         obtain ⟨A46, c46, e46⟩ := Kd.S_slice hS
         subst e46
         have z_3_9_2 := RdQ.set46 z_3_9 hb hS
         clear hb hS
         refine hK.out _ _ ⟨(blk_cell z_3_9_2.gb 0).trans rfl, z_3_9_2.bare⟩ (fun hHeld => ?_)
         clear hK K
         refine norm_ (a' := ?_) ?_ ?_
         rotate_left
         ·show Act.put _ (some 46) _ = _
          simp only [Act.put, List.setIfInBounds_toArray, List.set_cons_zero, List.set_cons_succ, i64_w, i32_w]
          rfl
         refine one_ (i := 7) (N := some 51) #[true, true, true, true, true, true, true, true, false, true, false] rfl rfl (by kernel_rfl) (by decide) (fun K hK => ?_)
         refine Kd.R_append_rows_step (Kd.int .i64) (w0 := w6) w6.heap.size (by rfl) (.tmp 47) (.tmp 50) 23 3 (.int .i64 0) 8 rfl Tryd.underlying23 Go.Proofs.YtamcacahjlaogaaDoor.Ln.info3 rfl (by decide) (by decide) (.slice A47 0 c47) [] (al.take (m' + 1)) (some ad) (m' + 1) ca (fun _ => True) (fun _ => False) ?sE ?xE ?hO ?hR (fun _ _ h => h) (fun _ h => h.elim) (fun _ _ => trivial) ?hB ?hb ?hL ?_
         case sE => rfl
         case xE => rfl
         case hO => exact z_3_9_2.c47 _ rfl
         case hR => exact C_pre (Kd.R_reads' z_3_9_2.al).2.2 (m' + 1) HF2.out
         case hB => exact z_3_9_2.bel
         case hb => exact z_3_9_2.bel.size
         case hL => have := HM.out; simp only [List.length_nil]; omega
         intro v51 w80 hR51 hb51 hg51 _
         rw [List.nil_append] at hR51
         obtain ⟨A51, c51, e51⟩ : ∃ A c, v51 = .slice A (m' + 1) c := by have h := Kd.R_slice hR51; rw [List.length_take, Nat.min_eq_left HF2.out] at h; exact h
         subst e51
         have z_3_9_2_7 := RdQ.set51 z_3_9_2 GB6.out.1 GB6.out.2 hg51 hb51 hR51
         clear hR51 hb51 hg51
         refine hK.out _ _ ⟨(blk_cell z_3_9_2_7.gb 0).trans rfl, z_3_9_2_7.bare⟩ (fun hHeld => ?_)
         clear hK K
         refine norm_ (a' := ?_) ?_ ?_
         rotate_left
         ·show Act.put _ (some 51) _ = _
          simp only [Act.put, List.setIfInBounds_toArray, List.set_cons_zero, List.set_cons_succ, i64_w, i32_w]
          rfl
         refine pure_ (i := 8) (N := some 52) (v := ?_) (a' := ?_) #[true, true, true, true, true, true, true, true, true, true, false] rfl rfl (by kernel_rfl) (fun _ _ _ h => h) (Or.inl ⟨by rfl, ?_⟩) ?_ ?_
         rotate_left
         ·intro w'
          go_simp
          with_reducible rfl
         rotate_left
         ·simp only [Act.put, List.setIfInBounds_toArray, List.set_cons_zero, List.set_cons_succ, i64_w, i32_w]
          rfl
         exact norm_ (by simp only [putAll, Act.put, List.setIfInBounds_toArray, List.set_cons_zero, List.set_cons_succ]) (hCont ((A46, c46), (A47, c47), (A51, c51), p) _ ⟨hHeld, z_3_9_2_7⟩)
       ·skip
        refine value_ (w1 := ?_) (v := ?_) (by rfl) rfl ?_ ?_
        rotate_left 2
        ·go_simp
         constructor
         ·rfl
         ·rfl
        have z_9 := RdQ.set11 z_
        obtain ⟨p, hp⟩ : ∃ x, (w6).heap.size = x := ⟨_, rfl⟩
        obtain ⟨w97, hw⟩ : ∃ x, World.alloc w6 (.cells #[.slice none 0 0, .slice none 0 0] 29) = x := ⟨_, rfl⟩
        rw [hp, hw] at z_9
        rw [hp, hw]
        clear hp hw
        refine hK.out _ _ ⟨(blk_cell z_9.gb 0).trans rfl, z_9.bare⟩ (fun hHeld => ?_)
        clear hK K
        refine norm_ (a' := ?_) ?_ ?_
        rotate_left
        ·show Act.put _ (some 11) _ = _
         simp only [Act.put, List.setIfInBounds_toArray, List.set_cons_zero, List.set_cons_succ, i64_w, i32_w]
         rfl
        refine two_ (i := 2) (j := 3) (Ni := some 46) (Nj := some 47) #[true, true, true, false, true, true, true, false, false, true, false] #[true, true, false, true, true, true, true, false, false, true, false] rfl rfl rfl rfl (by kernel_rfl) (by decide) (by decide) (fun K hK => ?_) (fun K hK => ?_)
        ·skip
         refine goes_ Tryd.func51 (by kernel_rfl) rfl #[.slice A0 gs.length c0] (by rfl) rfl rfl (by simp only [List.map_toArray, List.map_cons, List.map_nil]; rfl) ?_
         with_reducible refine (copyRows_any _ gs A0 c0 (Kd.C_below HR.out ((HB01.out.trans (Below.mono HB6.out HB01.out.size)).trans (Below.mono hHeld.2.bel HL6.out))) hc0 HF.out).mono ?_
         rintro e w28 ⟨v46, rfl, hS, hb⟩
         refine ⟨_, rfl, ?_⟩
         obtain ⟨A46, c46, e46⟩ := Kd.S_slice hS
         subst e46
         have z_9_2 := RdQ.set46 z_9 hb hS
         clear hb hS
         refine hK.out _ _ ⟨(blk_cell z_9_2.gb 0).trans rfl, z_9_2.bare⟩ (fun hHeld => ?_)
         clear hK K
         refine norm_ (a' := ?_) ?_ ?_
         rotate_left
         ·show Act.put _ (some 46) _ = _
          simp only [Act.put, List.setIfInBounds_toArray, List.set_cons_zero, List.set_cons_succ, i64_w, i32_w]
          rfl
         refine one_ (i := 3) (N := some 47) #[true, true, true, true, true, true, true, false, false, true, false] rfl rfl (by kernel_rfl) (by decide) (fun K hK => ?_)
         refine Kd.R_lit_step (Kd.int .i64) _ 3 ?hg (N := 47) ?hd (xs := ([] : List Int)) (inner := []) (ok := fun _ => True) (okp := fun _ => True) ?hr ?hp (fun _ hk => hk) trivial (Below.refl _ _) (Nat.le_refl _) (by simp) ?_
         (case hd => rfl)
         (case hg => rfl)
         (case hr => first | (go_simp; done) | (go_simp; rfl))
         (case hp => exact (Reps.none _ _))
         intro v47 w39 hR hb _ _
         obtain ⟨A47, c47, e47⟩ : ∃ A c, v47 = .slice A 0 c := Kd.R_slice hR
         subst e47
         have z_9_2_3 := RdQ.set47 z_9_2 hb hR
         clear hb hR
         refine hK.out _ _ ⟨(blk_cell z_9_2_3.gb 0).trans rfl, z_9_2_3.bare⟩ (fun hHeld => ?_)
         clear hK K
         refine norm_ (a' := ?_) ?_ ?_
         rotate_left
         ·show Act.put _ (some 47) _ = _
          simp only [Act.put, List.setIfInBounds_toArray, List.set_cons_zero, List.set_cons_succ, i64_w, i32_w]
          rfl
         refine one_ (i := 7) (N := some 51) #[true, true, true, true, true, true, true, true, false, true, false] rfl rfl (by kernel_rfl) (by decide) (fun K hK => ?_)
         refine Kd.R_append_rows_step (Kd.int .i64) (w0 := w6) w6.heap.size (by rfl) (.tmp 47) (.tmp 50) 23 3 (.int .i64 0) 8 rfl Tryd.underlying23 Go.Proofs.YtamcacahjlaogaaDoor.Ln.info3 rfl (by decide) (by decide) (.slice A47 0 c47) [] (al.take (m' + 1)) (some ad) (m' + 1) ca (fun _ => True) (fun _ => False) ?sE ?xE ?hO ?hR (fun _ _ h => h) (fun _ h => h.elim) (fun _ _ => trivial) ?hB ?hb ?hL ?_
         case sE => rfl
         case xE => rfl
         case hO => exact z_9_2_3.c47 _ rfl
         case hR => exact C_pre (Kd.R_reads' z_9_2_3.al).2.2 (m' + 1) HF2.out
         case hB => exact z_9_2_3.bel
         case hb => exact z_9_2_3.bel.size
         case hL => have := HM.out; simp only [List.length_nil]; omega
         intro v51 w80 hR51 hb51 hg51 _
         rw [List.nil_append] at hR51
         obtain ⟨A51, c51, e51⟩ : ∃ A c, v51 = .slice A (m' + 1) c := by have h := Kd.R_slice hR51; rw [List.length_take, Nat.min_eq_left HF2.out] at h; exact h
         subst e51
         have z_9_2_3_7 := RdQ.set51 z_9_2_3 GB6.out.1 GB6.out.2 hg51 hb51 hR51
         clear hR51 hb51 hg51
         refine hK.out _ _ ⟨(blk_cell z_9_2_3_7.gb 0).trans rfl, z_9_2_3_7.bare⟩ (fun hHeld => ?_)
         clear hK K
         refine norm_ (a' := ?_) ?_ ?_
         rotate_left
         ·show Act.put _ (some 51) _ = _
          simp only [Act.put, List.setIfInBounds_toArray, List.set_cons_zero, List.set_cons_succ, i64_w, i32_w]
          rfl
         refine pure_ (i := 8) (N := some 52) (v := ?_) (a' := ?_) #[true, true, true, true, true, true, true, true, true, true, false] rfl rfl (by kernel_rfl) (fun _ _ _ h => h) (Or.inl ⟨by rfl, ?_⟩) ?_ ?_
         rotate_left
         ·intro w'
          go_simp
          with_reducible rfl
         rotate_left
         ·simp only [Act.put, List.setIfInBounds_toArray, List.set_cons_zero, List.set_cons_succ, i64_w, i32_w]
          rfl
         exact norm_ (by simp only [putAll, Act.put, List.setIfInBounds_toArray, List.set_cons_zero, List.set_cons_succ]) (hCont ((A46, c46), (A47, c47), (A51, c51), p) _ ⟨hHeld, z_9_2_3_7⟩)
        ·skip
         refine Kd.R_lit_step (Kd.int .i64) _ 3 ?hg (N := 47) ?hd (xs := ([] : List Int)) (inner := []) (ok := fun _ => True) (okp := fun _ => True) ?hr ?hp (fun _ hk => hk) trivial (Below.refl _ _) (Nat.le_refl _) (by simp) ?_
         (case hd => rfl)
         (case hg => rfl)
         (case hr => first | (go_simp; done) | (go_simp; rfl))
         (case hp => exact (Reps.none _ _))
         intro v47 w38 hR hb _ _
         obtain ⟨A47, c47, e47⟩ : ∃ A c, v47 = .slice A 0 c := Kd.R_slice hR
         subst e47
         have z_9_3 := RdQ.set47 z_9 hb hR
         clear hb hR
         refine hK.out _ _ ⟨(blk_cell z_9_3.gb 0).trans rfl, z_9_3.bare⟩ (fun hHeld => ?_)
         clear hK K
         refine norm_ (a' := ?_) ?_ ?_
         rotate_left
         ·show Act.put _ (some 47) _ = _
          simp only [Act.put, List.setIfInBounds_toArray, List.set_cons_zero, List.set_cons_succ, i64_w, i32_w]
          rfl
         refine one_ (i := 2) (N := some 46) #[true, true, true, true, true, true, true, false, false, true, false] rfl rfl (by kernel_rfl) (by decide) (fun K hK => ?_)
         refine goes_ Tryd.func51 (by kernel_rfl) rfl #[.slice A0 gs.length c0] (by rfl) rfl rfl (by simp only [List.map_toArray, List.map_cons, List.map_nil]; rfl) ?_
         with_reducible refine (copyRows_any _ gs A0 c0 (Kd.C_below HR.out ((HB01.out.trans (Below.mono HB6.out HB01.out.size)).trans (Below.mono hHeld.2.bel HL6.out))) hc0 HF.out).mono ?_
         rintro e w29 ⟨v46, rfl, hS, hb⟩
         refine ⟨_, rfl, ?_⟩
         obtain ⟨A46, c46, e46⟩ := Kd.S_slice hS
         subst e46
         have z_9_3_2 := RdQ.set46 z_9_3 hb hS
         clear hb hS
         refine hK.out _ _ ⟨(blk_cell z_9_3_2.gb 0).trans rfl, z_9_3_2.bare⟩ (fun hHeld => ?_)
         clear hK K
         refine norm_ (a' := ?_) ?_ ?_
         rotate_left
         ·show Act.put _ (some 46) _ = _
          simp only [Act.put, List.setIfInBounds_toArray, List.set_cons_zero, List.set_cons_succ, i64_w, i32_w]
          rfl
         refine one_ (i := 7) (N := some 51) #[true, true, true, true, true, true, true, true, false, true, false] rfl rfl (by kernel_rfl) (by decide) (fun K hK => ?_)
         refine Kd.R_append_rows_step (Kd.int .i64) (w0 := w6) w6.heap.size (by rfl) (.tmp 47) (.tmp 50) 23 3 (.int .i64 0) 8 rfl Tryd.underlying23 Go.Proofs.YtamcacahjlaogaaDoor.Ln.info3 rfl (by decide) (by decide) (.slice A47 0 c47) [] (al.take (m' + 1)) (some ad) (m' + 1) ca (fun _ => True) (fun _ => False) ?sE ?xE ?hO ?hR (fun _ _ h => h) (fun _ h => h.elim) (fun _ _ => trivial) ?hB ?hb ?hL ?_
         case sE => rfl
         case xE => rfl
         case hO => exact z_9_3_2.c47 _ rfl
         case hR => exact C_pre (Kd.R_reads' z_9_3_2.al).2.2 (m' + 1) HF2.out
         case hB => exact z_9_3_2.bel
         case hb => exact z_9_3_2.bel.size
         case hL => have := HM.out; simp only [List.length_nil]; omega
         intro v51 w80 hR51 hb51 hg51 _
         rw [List.nil_append] at hR51
         obtain ⟨A51, c51, e51⟩ : ∃ A c, v51 = .slice A (m' + 1) c := by have h := Kd.R_slice hR51; rw [List.length_take, Nat.min_eq_left HF2.out] at h; exact h
         subst e51
         have z_9_3_2_7 := RdQ.set51 z_9_3_2 GB6.out.1 GB6.out.2 hg51 hb51 hR51
         clear hR51 hb51 hg51
         refine hK.out _ _ ⟨(blk_cell z_9_3_2_7.gb 0).trans rfl, z_9_3_2_7.bare⟩ (fun hHeld => ?_)
         clear hK K
         refine norm_ (a' := ?_) ?_ ?_
         rotate_left
         ·show Act.put _ (some 51) _ = _
          simp only [Act.put, List.setIfInBounds_toArray, List.set_cons_zero, List.set_cons_succ, i64_w, i32_w]
          rfl
         refine pure_ (i := 8) (N := some 52) (v := ?_) (a' := ?_) #[true, true, true, true, true, true, true, true, true, true, false] rfl rfl (by kernel_rfl) (fun _ _ _ h => h) (Or.inl ⟨by rfl, ?_⟩) ?_ ?_
         rotate_left
         ·intro w'
          go_simp
          with_reducible rfl
         rotate_left
         ·simp only [Act.put, List.setIfInBounds_toArray, List.set_cons_zero, List.set_cons_succ, i64_w, i32_w]
          rfl
         exact norm_ (by simp only [putAll, Act.put, List.setIfInBounds_toArray, List.set_cons_zero, List.set_cons_succ]) (hCont ((A46, c46), (A47, c47), (A51, c51), p) _ ⟨hHeld, z_9_3_2_7⟩)
      rintro ⟨⟨A46, c46⟩, ⟨A47, c47⟩, ⟨A51, c51⟩, p⟩ w8 ⟨hHeld, zf⟩
      replace zf : RdQ w6 w0.heap.size w.heap.size rs #[.slice A0 gs.length c0, .slice A1 st.length c1] #[.slice none 0 0, .slice none 0 0] (.slice (some ad) al.length ca) al gs (al.take (m' + 1)) (some (.slice A46 gs.length c46)) none (some (.slice A51 (m' + 1) c51)) (some p) w8 := zf
      obtain ⟨p1, p2⟩ := zf.c11 p rfl
      have y0 : w8.cell? ⟨p, 0, none⟩ = some (.slice none 0 0) := (blk_cell p2 0).trans rfl
      have y1 : w8.cell? ⟨p, 1, none⟩ = some (.slice none 0 0) := (blk_cell p2 1).trans rfl
      have u0 := blk_frozen p2 0
      have u1 := blk_frozen p2 1
      have ZF := Aside0.mk zf
      have PP := Aside0.mk p1
      have PB := Aside0.mk p2
      clear p1 p2 zf
      refine norm_ (a' := ?_) ?_ ?_
      rotate_left
      ·simp only [putAll, Act.put, List.setIfInBounds_toArray, List.set_cons_zero, List.set_cons_succ]
       rfl
      refine last_ (i := 10) (N := none) #[true, true, true, true, true, true, true, true, true, true, true] rfl rfl (by kernel_rfl) (by decide) (fun K hK => ?_)
      refine skip_ (w1 := ?_) (by rfl) rfl ?_ ?_
      rotate_left
      ·go_simp
       rfl
      refine hK.out _ _ ?_
      clear hK K
      refine done_ (by kernel_rfl) ?_
      obtain ⟨w9, e9⟩ : ∃ z, (w8.setCell ⟨p, 0, none⟩ (.slice A46 gs.length c46)).setCell ⟨p, 1, none⟩ (.slice A51 (m' + 1) c51) = z := ⟨_, rfl⟩
      have hy : al.take (m' + 1) = sts Rs (m' + 1) := by
       rw [← HAL.out]
       unfold sts
       rw [← List.map_take, List.take_range, Nat.min_eq_left HKL.out]
      have hle : w.heap.size ≤ w6.heap.size := Nat.le_trans HB0.out.size HL6.out
      have LB8 : LB w8 w.heap.size (fun _ => True) (.slice A46 gs.length c46) (.slice A51 (m' + 1) c51) gs (sts Rs (m' + 1)) := ⟨Kd.S_lower (ZF.out.c46 _ rfl) hle, by rw [← hy]; exact Kd.R_lower (ZF.out.c51 _ rfl) hle⟩
      have hB9 : Below w1.heap.size w1 w9 := by rw [← e9]; exact ((HB6.out.trans (Below.mono ZF.out.bel HB6.out.size)).setCell (p := ⟨p, 0, none⟩) (Nat.le_trans HB6.out.size PP.out) _).setCell (p := ⟨p, 1, none⟩) (Nat.le_trans HB6.out.size PP.out) _
      obtain ⟨y, HY⟩ : ∃ y, Aside0 (stAt Rs line = y) := ⟨_, ⟨rfl⟩⟩
      have hll : line < gs.length := by have := HLO.out.lt; have := HKL.out; omega
      have hx9 := AX.out w9 hB9 line hll
      rw [HY.out] at hx9
      have yb : 0 ≤ y ∧ y ≤ 1000000 := by rw [← HY.out]; exact STB.out line (by omega)
      have ns : rs ≠ p := by have := GB6.out.2; have := PP.out; omega
      have rs9 : w9.heap[rs]? = some (.cells #[.slice none 0 0, .slice none 0 0] 29 (0, 0)) := by rw [← e9]; exact ((Below.heap_setCell _ ⟨p, 1, none⟩ _ rs ns).trans (Below.heap_setCell _ ⟨p, 0, none⟩ _ rs ns)).trans ZF.out.rs
      obtain ⟨w10, e10⟩ : ∃ z, w9.drew = z := ⟨_, rfl⟩
      have z10 : RdP w p (.slice A46 gs.length c46) (.slice A51 (m' + 1) c51) gs (sts Rs (m' + 1)) (ad.add line) y w10 := by
       rw [← e10]
       have hb : Below w9.heap.size w9 w9.drew := (Below.refl _ w9).drew
       refine ⟨LB.below ?_ hb, blk_below ?_ hb, (hb.cell (World.block_lt_of_cell? w9 _ hx9)).trans hx9, below_step (below_step HB1.out hB9) hb⟩
       ·rw [← e9]; exact LB.put LB8 PB.out
       ·rw [← e9]; exact blk_put (blk_put PB.out 0 _ rfl) 1 _ rfl
      have RS10 := Aside0.mk (show w10.heap[rs]? = some (.cells #[.slice none 0 0, .slice none 0 0] 29 (0, 0)) by rw [← e10]; exact blk_below rs9 (Below.refl _ w9).drew)
      have NP := Aside0.mk (show p ≠ rs from fun e => ns e.symm)
      have NA := Aside0.mk (show (ad.add line).block ≠ rs by
       have h := Kd.R_base HRA.out ad.block (by simp [Value.ownBlock])
       have := HRL.out.2
       have eb : (ad.add line).block = ad.block := add_block _ _
       rw [eb]
       omega)
      have e1 : line < al.length := by rw [HALL.out]; exact hll
      have t2 : IntKind.i64.wrap (off - y) = off - y := by rw [IntKind.wrap_i64]; omega
      have CB := Aside0.mk HOFF.out
      rw [e9]
      clear y0 y1 u0 u1 hHeld f1 f2 f3 f4 f5 z_ hx9 hB9 LB8 hy hle hll ns rs9 e9
      go_wp2
      refine start_ (n := 11) (S := fun w' => w'.cell? ⟨p, 0, none⟩ = some (.slice A46 gs.length c46) ∧ w'.cell? ⟨p, 1, none⟩ = some (.slice A51 (m' + 1) c51) ∧ w'.cell? (ad.add line) = some (.int .i64 y) ∧ RdP w p (.slice A46 gs.length c46) (.slice A51 (m' + 1) c51) gs (sts Rs (m' + 1)) (ad.add line) y w') (ds := []) #[false, false, false, false, false, false, false, false, false, false, false] (by kernel_rfl) rfl rfl ⟨(by rw [e10]; exact (blk_cell z10.pb 0).trans rfl), (by rw [e10]; exact (blk_cell z10.pb 1).trans rfl), (by rw [e10]; exact z10.ax), (by rw [e10]; exact z10)⟩ (fun hHeld => ?_)
      rw [e10] at hHeld ⊢
      clear e10
      refine pure_ (i := 1) (N := some 54) (v := ?_) (a' := ?_) #[false, true, false, false, false, false, false, false, false, false, false] rfl rfl (by kernel_rfl) (fun _ _ _ h => h) (Or.inl ⟨by rfl, ?_⟩) ?_ ?_
      rotate_left
      ·intro w'
       go_simp
       with_reducible rfl
      rotate_left
      ·simp only [Act.put, List.setIfInBounds_toArray, List.set_cons_zero, List.set_cons_succ, i64_w, i32_w]
       rfl
      refine pure_ (i := 2) (N := some 55) (v := ?_) (a' := ?_) #[false, true, true, false, false, false, false, false, false, false, false] rfl rfl (by kernel_rfl) (fun _ _ _ h => h) (Or.inl ⟨by rfl, ?_⟩) ?_ ?_
      rotate_left
      ·intro w'
       go_simp
       with_reducible rfl
      rotate_left
      ·simp only [Act.put, List.setIfInBounds_toArray, List.set_cons_zero, List.set_cons_succ, i64_w, i32_w]
       rfl
      refine pure_ (i := 3) (N := some 56) (v := ?_) (a' := ?_) #[false, true, true, true, false, false, false, false, false, false, false] rfl rfl (by kernel_rfl) (fun _ _ _ h => h) (Or.inl ⟨by rfl, ?_⟩) ?_ ?_
      rotate_left
      ·intro w'
       go_simp
       with_reducible rfl
      rotate_left
      ·simp only [Act.put, List.setIfInBounds_toArray, List.set_cons_zero, List.set_cons_succ, i64_w, i32_w]
       rfl
      refine pure_ (i := 4) (N := some 57) (v := ?_) (a' := ?_) #[false, true, true, true, true, false, false, false, false, false, false] rfl rfl (by kernel_rfl) (fun _ _ _ h => h) (Or.inl ⟨by rfl, ?_⟩) ?_ ?_
      rotate_left
      ·intro w'
       go_simp
       with_reducible rfl
      rotate_left
      ·simp only [Act.put, List.setIfInBounds_toArray, List.set_cons_zero, List.set_cons_succ, i64_w, i32_w]
       rfl
      refine pure_ (i := 5) (N := some 58) (v := ?_) (a' := ?_) #[false, true, true, true, true, true, false, false, false, false, false] rfl rfl (by kernel_rfl) (fun _ _ _ h => h) (Or.inl ⟨by rfl, ?_⟩) ?_ ?_
      rotate_left
      ·intro w'
       go_simp
       with_reducible rfl
      rotate_left
      ·simp only [Act.put, List.setIfInBounds_toArray, List.set_cons_zero, List.set_cons_succ, i64_w, i32_w]
       rfl
      refine take_ (i := 0) (N := some 53) (v := ?_) (a' := ?_) #[true, true, true, true, true, true, false, false, false, false, false] rfl rfl (by kernel_rfl) (fun _ _ _ h => h) (Or.inl ⟨by rfl, ?_⟩) hHeld ?_ ?_
      rotate_left
      ·rintro w' ⟨s0, s1, s2, s3⟩
       go_simp
       with_reducible rfl
      rotate_left
      ·simp only [Act.put, List.setIfInBounds_toArray, List.set_cons_zero, List.set_cons_succ, i64_w, i32_w]
       rfl
      refine take_ (i := 6) (N := some 59) (v := ?_) (a' := ?_) #[true, true, true, true, true, true, true, false, false, false, false] rfl rfl (by kernel_rfl) (fun _ _ _ h => h) (Or.inl ⟨by rfl, ?_⟩) hHeld ?_ ?_
      rotate_left
      ·rintro w' ⟨s0, s1, s2, s3⟩
       go_simp
       with_reducible rfl
      rotate_left
      ·simp only [Act.put, List.setIfInBounds_toArray, List.set_cons_zero, List.set_cons_succ, i64_w, i32_w]
       rfl
      refine pure_ (i := 7) (N := some 60) (v := ?_) (a' := ?_) #[true, true, true, true, true, true, true, true, false, false, false] rfl rfl (by kernel_rfl) (fun _ _ _ h => h) (Or.inl ⟨by rfl, ?_⟩) ?_ ?_
      rotate_left
      ·intro w'
       go_simp
       with_reducible rfl
      rotate_left
      ·simp only [Act.put, List.setIfInBounds_toArray, List.set_cons_zero, List.set_cons_succ, i64_w, i32_w]
       rfl
      refine one_ (i := 8) (N := none) #[true, true, true, true, true, true, true, true, true, false, false] rfl rfl (by kernel_rfl) (by decide) (fun K hK => ?_)
      have r0 := (blk_cell RS10.out 0).trans rfl
      have r1 := (blk_cell RS10.out 1).trans rfl
      have fz0 := blk_frozen RS10.out 0
      have fz1 := blk_frozen RS10.out 1
      have z11 := RdP.put hHeld.2.2.2 RS10.out NP.out NA.out HRS.out
      have rs11 := blk_put (blk_put RS10.out 0 (.slice A46 gs.length c46) rfl) 1 (.slice A51 (m' + 1) c51) rfl
      refine skip_ (w1 := ?_) (by rfl) rfl ?_ ?_
      rotate_left
      ·go_simp
       rfl
      clear r0 r1 fz0 fz1
      obtain ⟨w11, hw⟩ : ∃ x, (w10.setCell ⟨rs, 0, none⟩ (.slice A46 gs.length c46)).setCell ⟨rs, 1, none⟩ (.slice A51 (m' + 1) c51) = x := ⟨_, rfl⟩
      rw [hw] at z11 rs11
      rw [hw]
      clear hw
      refine hK.out _ _ ⟨(blk_cell z11.pb 0).trans rfl, (blk_cell z11.pb 1).trans rfl, z11.ax, z11⟩ (fun hHeld => ?_)
      clear hK K
      refine pure_ (i := 9) (N := some 5) (v := ?_) (a' := ?_) #[true, true, true, true, true, true, true, true, true, true, false] rfl rfl (by kernel_rfl) (fun _ _ _ h => h) (Or.inl ⟨by rfl, ?_⟩) ?_ ?_
      rotate_left
      ·intro w'
       go_simp
       with_reducible rfl
      rotate_left
      ·simp only [Act.put, List.setIfInBounds_toArray, List.set_cons_zero, List.set_cons_succ, i64_w, i32_w]
       rfl
      refine pure_ (i := 10) (N := some 6) (v := ?_) (a' := ?_) #[true, true, true, true, true, true, true, true, true, true, true] rfl rfl (by kernel_rfl) (fun _ _ _ h => h) (Or.inl ⟨by rfl, ?_⟩) ?_ ?_
      rotate_left
      ·intro w'
       go_simp
       with_reducible rfl
      rotate_left
      ·simp only [Act.put, List.setIfInBounds_toArray, List.set_cons_zero, List.set_cons_succ, i64_w, i32_w]
       rfl
      refine done_ (by kernel_rfl) ?_
      have ZG := Aside0.mk hHeld.2.2.2
      have RS11 := Aside0.mk rs11
      clear rs11 hHeld
      go_wp2
      refine bodyPost_ret (results_list (rs := [.cell 4 29, .tmp 5, .tmp 6]) rfl (by simp) (.cell rs 29 _ (0, 0) _ rfl RS11.out Tryd.underlying29 rfl (by kernel_rfl) (.tmp (.tmp .nil)))) rfl ?_
      rw [HRs.out]
      refine ⟨m' + 1, line, _, _, ?_, HKN.out, HLO.out, ZG.out.lb, ZG.out.bel⟩
      rw [HY.out]
      rfl
  ·have d1 : ¬ m' + 1 < al.length := by rw [HALL.out]; exact cm
   have HKN := Aside0.mk (show Known Rs st.length off (m' + 1) from ⟨HM0.out, by have := HK.out; omega, HAL2.out, .inl (by have := HK.out; have := HRl.out; omega)⟩)
   obtain ⟨wq, hwq⟩ : ∃ z, z = wr := ⟨_, rfl⟩
   subst hwq
   have hkn : m' + 1 ≤ gs.length := by have := HKN.out.hi; have := HRl.out; omega
   have HKL := Aside0.mk hkn
   have ATL : Aside0 (FlAt wq Rs (m' + 1) off (m' + 1) (.int .i64 0) (.int .i64 0) wq) := ⟨⟨⟨0, 0, rfl, rfl, by omega, .inl ⟨rfl, rfl⟩⟩, Below.refl _ _⟩⟩
   clear hkn
   go_wp2
   go_loopg [9, 10] (m' + 1) (fun k v9 v10 w3x => FlAt wq Rs (m' + 1) off k v9 v10 w3x)
   case atStart => exact ATL.out
   case round =>
    clear ATL
    obtain ⟨⟨i, line, rfl, rfl, hki, hli⟩, hB3⟩ := hrel
    have HB3 := Aside0.mk (below_step HB.out hB3)
    have HBr := Aside0.mk hB3
    have HKI := Aside0.mk hki
    have HLI := Aside0.mk hli
    have lnb : line ≤ 8193 := by omega
    clear hki hli hB3
    by_cases ci : i < m' + 1
    ·have hi2 : i < gs.length := by have := HKL.out; omega
     have hx := AX.out wr HB3.out i hi2
     obtain ⟨y, HY⟩ : ∃ y, Aside0 (stAt Rs i = y) := ⟨_, ⟨rfl⟩⟩
     rw [HY.out] at hx
     have e1 : i < al.length := by rw [HALL.out]; exact hi2
     by_cases cy : y ≤ off
     ·have HCY := Aside0.mk cy
      go_wp2
      go_roundg (m' + 1 - (i + 1))
      case measure => have := HKI.out; omega
      case rel => exact ⟨⟨i + 1, i, by go_num, by go_num, by have := HKI.out; omega, .inr ⟨by omega, by omega, by rw [HY.out]; exact HCY.out, .inl rfl⟩⟩, HBr.out⟩
     ·have cy2 : off < y := by omega
      have HCY := Aside0.mk cy2
      go_wp2
      go_roundg (m' + 1 - (i + 1))
      case measure => have := HKI.out; omega
      case rel =>
       refine ⟨⟨i + 1, line, by go_num, by go_num, by have := HKI.out; omega, .inr ?_⟩, HBr.out⟩
       rcases HLI.out with ⟨h1, h2⟩ | ⟨h1, h2, h3, h4⟩
       ·exfalso
        subst h1
        have := HY.out
        simp only [stAt] at this
        have := HCY.out
        omega
       ·refine ⟨by omega, by omega, h3, .inr ?_⟩
        rcases h4 with h4 | h4
        ·rw [h4, HY.out]; exact HCY.out
        ·exact h4
    ·have HLO : Aside0 (LineOf Rs (m' + 1) off line) := ⟨by
      have := HKI.out
      rcases HLI.out with ⟨h1, h2⟩ | ⟨h1, h2, h3, h4⟩
      ·omega
      ·refine ⟨by omega, h3, ?_⟩
       rcases h4 with h4 | h4
       ·exact .inl (by omega)
       ·exact .inr h4⟩
     have ci2 : ¬ i < m' + 1 := ci
     go_wp2
     obtain ⟨w6, e6⟩ : ∃ z, wr.drew = z := ⟨_, rfl⟩
     have HB6 := Aside0.mk (show Below w1.heap.size w1 w6 by rw [← e6]; exact HB3.out.drew)
     have HL6 := Aside0.mk (show w0.heap.size ≤ w6.heap.size from Nat.le_trans HS1.out HB6.out.size)
     have ar : Kd.R (Kd.int .i64) 3 w6 w0.heap.size (fun k => k < w6.heap.size) (.slice (some ad) al.length ca) al := Kd.R_mono (Kd.R_bound (Kd.R_below HRA.out HB6.out)) (fun k hk => hk.2.2.1)
     have z_ : RdQ w6 w0.heap.size w.heap.size rs #[.slice A0 gs.length c0, .slice A1 st.length c1] #[.slice none 0 0, .slice none 0 0] (.slice (some ad) al.length ca) al gs (al.take (m' + 1)) none none none none w6 := ⟨blk_below HX1.out HB6.out, blk_below RS1.out HB6.out, ar, Below.refl _ _, (fun v e => by cases e), (fun v e => by cases e), (fun v e => by cases e), (fun v e => by cases e)⟩
     have GB6 := Aside0.mk (show w.heap.size < w6.heap.size ∧ rs < w6.heap.size by have := HRL.out; have := HL6.out; omega)
     have f1 : 0 ≤ ((m' + 1 : Nat) : Int) := by omega
     have f2 : m' + 1 ≤ al.length := by rw [HALL.out]; exact HKL.out
     have f3 : m' + 1 ≤ ca := Nat.le_trans f2 HCA.out
     have f4 : (0 : Int) ≤ (m' : Int) + 1 := by omega
     have f5 : (m' : Int) + 1 ≤ (ca : Int) := by omega
     have HM := Aside0.mk (show m' + 1 ≤ 8193 by omega)
     have HF2 := Aside0.mk f2
     clear ar
     refine start_ (n := 11) (S := fun w' => w'.cell? ⟨w.heap.size, 0, none⟩ = some (.slice A0 gs.length c0) ∧ RdQ w6 w0.heap.size w.heap.size rs #[.slice A0 gs.length c0, .slice A1 st.length c1] #[.slice none 0 0, .slice none 0 0] (.slice (some ad) al.length ca) al gs (al.take (m' + 1)) none none none none w') (ds := [10]) #[false, false, false, false, false, false, false, false, false, false, false] (by kernel_rfl) rfl rfl ⟨(by rw [e6]; exact (blk_cell z_.gb 0).trans rfl), (by rw [e6]; exact z_)⟩ (fun hHeld => ?_)
     rw [e6] at hHeld ⊢
     clear e6
     refine pure_ (i := 0) (N := some 44) (v := ?_) (a' := ?_) #[true, false, false, false, false, false, false, false, false, false, false] rfl rfl (by kernel_rfl) (fun _ _ _ h => h) (Or.inl ⟨by rfl, ?_⟩) ?_ ?_
     rotate_left
     ·intro w'
      go_simp
      with_reducible rfl
     rotate_left
     ·simp only [Act.put, List.setIfInBounds_toArray, List.set_cons_zero, List.set_cons_succ, i64_w, i32_w]
      rfl
     refine pure_ (i := 4) (N := some 48) (v := ?_) (a' := ?_) #[true, false, false, false, true, false, false, false, false, false, false] rfl rfl (by kernel_rfl) (fun _ _ _ h => h) (Or.inl ⟨by rfl, ?_⟩) ?_ ?_
     rotate_left
     ·intro w'
      go_simp
      with_reducible rfl
     rotate_left
     ·simp only [Act.put, List.setIfInBounds_toArray, List.set_cons_zero, List.set_cons_succ, i64_w, i32_w]
      rfl
     refine pure_ (i := 5) (N := some 49) (v := ?_) (a' := ?_) #[true, false, false, false, true, true, false, false, false, false, false] rfl rfl (by kernel_rfl) (fun _ _ _ h => h) (Or.inl ⟨by rfl, ?_⟩) ?_ ?_
     rotate_left
     ·intro w'
      go_simp
      with_reducible rfl
     rotate_left
     ·simp only [Act.put, List.setIfInBounds_toArray, List.set_cons_zero, List.set_cons_succ, i64_w, i32_w]
      rfl
     refine pure_ (i := 6) (N := some 50) (v := ?_) (a' := ?_) #[true, false, false, false, true, true, true, false, false, false, false] rfl rfl (by kernel_rfl) (fun _ _ _ h => h) (Or.inl ⟨by rfl, ?_⟩) ?_ ?_
     rotate_left
     ·intro w'
      go_simp
      with_reducible rfl
     rotate_left
     ·simp only [Act.put, List.setIfInBounds_toArray, List.set_cons_zero, List.set_cons_succ, i64_w, i32_w]
      rfl
     refine take_ (i := 1) (N := some 45) (v := ?_) (a' := ?_) #[true, true, false, false, true, true, true, false, false, false, false] rfl rfl (by kernel_rfl) (fun _ _ _ h => h) (Or.inl ⟨by rfl, ?_⟩) hHeld ?_ ?_
     rotate_left
     ·rintro w' ⟨s0, s1⟩
      go_simp
      with_reducible rfl
     rotate_left
     ·simp only [Act.put, List.setIfInBounds_toArray, List.set_cons_zero, List.set_cons_succ, i64_w, i32_w]
      rfl
     refine join_ (σ := (Option Addr × Nat) × (Option Addr × Nat) × (Option Addr × Nat) × Nat) 1 #[true, true, true, true, true, true, true, true, true, true, false] (fun s => [(46, .slice s.1.1 gs.length s.1.2), (47, .slice s.2.1.1 0 s.2.1.2), (51, .slice s.2.2.1.1 (m' + 1) s.2.2.1.2), (52, .agg #[.slice s.1.1 gs.length s.1.2, .slice s.2.2.1.1 (m' + 1) s.2.2.1.2]), (11, .pointer (some ⟨s.2.2.2, 0, none⟩))]) (fun s w' => (w'.cell? ⟨w.heap.size, 0, none⟩ = some (.slice A0 gs.length c0) ∧ RdQ w6 w0.heap.size w.heap.size rs #[.slice A0 gs.length c0, .slice A1 st.length c1] #[.slice none 0 0, .slice none 0 0] (.slice (some ad) al.length ca) al gs (al.take (m' + 1)) none none none none w') ∧ RdQ w6 w0.heap.size w.heap.size rs #[.slice A0 gs.length c0, .slice A1 st.length c1] #[.slice none 0 0, .slice none 0 0] (.slice (some ad) al.length ca) al gs (al.take (m' + 1)) (some (.slice s.1.1 gs.length s.1.2)) none (some (.slice s.2.2.1.1 (m' + 1) s.2.2.1.2)) (some s.2.2.2) w') ?_ ?_
     rotate_left
     ·intro hCont
      refine three_ (i := 2) (j := 3) (k := 9) (Ni := some 46) (Nj := some 47) (Nk := some 11) #[true, true, true, false, true, true, true, false, false, false, false] #[true, true, false, true, true, true, true, false, false, false, false] #[true, true, false, false, true, true, true, false, false, true, false] rfl rfl rfl rfl rfl rfl (by kernel_rfl) (by decide) (by decide) (by decide) (fun K hK => ?_) (fun K hK => ?_) (fun K hK => ?_)
      ·skip
       refine goes_ Tryd.func51 (by kernel_rfl) rfl #[.slice A0 gs.length c0] (by rfl) rfl rfl (by simp only [List.map_toArray, List.map_cons, List.map_nil]; rfl) ?_
       with_reducible refine (copyRows_any _ gs A0 c0 (Kd.C_below HR.out ((HB01.out.trans (Below.mono HB6.out HB01.out.size)).trans (Below.mono hHeld.2.bel HL6.out))) hc0 HF.out).mono ?_
       rintro e w27 ⟨v46, rfl, hS, hb⟩
       refine ⟨_, rfl, ?_⟩
       obtain ⟨A46, c46, e46⟩ := Kd.S_slice hS
       subst e46
       have z_2 := RdQ.set46 z_ hb hS
       clear hb hS
       refine hK.out _ _ ⟨(blk_cell z_2.gb 0).trans rfl, z_2.bare⟩ (fun hHeld => ?_)
       clear hK K
       refine norm_ (a' := ?_) ?_ ?_
       rotate_left
       ·show Act.put _ (some 46) _ = _
        simp only [Act.put, List.setIfInBounds_toArray, List.set_cons_zero, List.set_cons_succ, i64_w, i32_w]
        rfl
       refine two_ (i := 3) (j := 9) (Ni := some 47) (Nj := some 11) #[true, true, true, true, true, true, true, false, false, false, false] #[true, true, true, false, true, true, true, false, false, true, false] rfl rfl rfl rfl (by kernel_rfl) (by decide) (by decide) (fun K hK => ?_) (fun K hK => ?_)
       ·skip
        refine Kd.R_lit_step (Kd.int .i64) _ 3 ?hg (N := 47) ?hd (xs := ([] : List Int)) (inner := []) (ok := fun _ => True) (okp := fun _ => True) ?hr ?hp (fun _ hk => hk) trivial (Below.refl _ _) (Nat.le_refl _) (by simp) ?_
        (case hd => rfl)
        (case hg => rfl)
        (case hr => first | (go_simp; done) | (go_simp; rfl))
        (case hp => exact (Reps.none _ _))
        intro v47 w38 hR hb _ _
        obtain ⟨A47, c47, e47⟩ : ∃ A c, v47 = .slice A 0 c := Kd.R_slice hR
        subst e47
        have z_2_3 := RdQ.set47 z_2 hb hR
        clear hb hR
        refine hK.out _ _ ⟨(blk_cell z_2_3.gb 0).trans rfl, z_2_3.bare⟩ (fun hHeld => ?_)
        clear hK K
        refine norm_ (a' := ?_) ?_ ?_
        rotate_left
        ·show Act.put _ (some 47) _ = _
         simp only [Act.put, List.setIfInBounds_toArray, List.set_cons_zero, List.set_cons_succ, i64_w, i32_w]
         rfl
        refine two_ (i := 7) (j := 9) (Ni := some 51) (Nj := some 11) #[true, true, true, true, true, true, true, true, false, false, false] #[true, true, true, true, true, true, true, false, false, true, false] rfl rfl rfl rfl (by kernel_rfl) (by decide) (by decide) (fun K hK => ?_) (fun K hK => ?_)
        ·skip
         refine Kd.R_append_rows_step (Kd.int .i64) (w0 := w6) w6.heap.size (by rfl) (.tmp 47) (.tmp 50) 23 3 (.int .i64 0) 8 rfl Tryd.underlying23 Go.Proofs.YtamcacahjlaogaaDoor.Ln.info3 rfl (by decide) (by decide) (.slice A47 0 c47) [] (al.take (m' + 1)) (some ad) (m' + 1) ca (fun _ => True) (fun _ => False) ?sE ?xE ?hO ?hR (fun _ _ h => h) (fun _ h => h.elim) (fun _ _ => trivial) ?hB ?hb ?hL ?_
         case sE => rfl
         case xE => rfl
         case hO => exact z_2_3.c47 _ rfl
         case hR => exact C_pre (Kd.R_reads' z_2_3.al).2.2 (m' + 1) HF2.out
         case hB => exact z_2_3.bel
         case hb => exact z_2_3.bel.size
         case hL => have := HM.out; simp only [List.length_nil]; omega
         intro v51 w79 hR51 hb51 hg51 _
         rw [List.nil_append] at hR51
         obtain ⟨A51, c51, e51⟩ : ∃ A c, v51 = .slice A (m' + 1) c := by have h := Kd.R_slice hR51; rw [List.length_take, Nat.min_eq_left HF2.out] at h; exact h
         subst e51
         have z_2_3_7 := RdQ.set51 z_2_3 GB6.out.1 GB6.out.2 hg51 hb51 hR51
         clear hR51 hb51 hg51
         refine hK.out _ _ ⟨(blk_cell z_2_3_7.gb 0).trans rfl, z_2_3_7.bare⟩ (fun hHeld => ?_)
         clear hK K
         refine norm_ (a' := ?_) ?_ ?_
         rotate_left
         ·show Act.put _ (some 51) _ = _
          simp only [Act.put, List.setIfInBounds_toArray, List.set_cons_zero, List.set_cons_succ, i64_w, i32_w]
          rfl
         refine pure_ (i := 8) (N := some 52) (v := ?_) (a' := ?_) #[true, true, true, true, true, true, true, true, true, false, false] rfl rfl (by kernel_rfl) (fun _ _ _ h => h) (Or.inl ⟨by rfl, ?_⟩) ?_ ?_
         rotate_left
         ·intro w'
          go_simp
          with_reducible rfl
         rotate_left
         ·simp only [Act.put, List.setIfInBounds_toArray, List.set_cons_zero, List.set_cons_succ, i64_w, i32_w]
          rfl
         refine one_ (i := 9) (N := some 11) #[true, true, true, true, true, true, true, true, true, true, false] rfl rfl (by kernel_rfl) (by decide) (fun K hK => ?_)
         refine value_ (w1 := ?_) (v := ?_) (by rfl) rfl ?_ ?_
         rotate_left 2
         ·go_simp
          constructor
          ·rfl
          ·rfl
         have z_2_3_7_9 := RdQ.set11 z_2_3_7
         obtain ⟨p, hp⟩ : ∃ x, (w79).heap.size = x := ⟨_, rfl⟩
         obtain ⟨w100, hw⟩ : ∃ x, World.alloc w79 (.cells #[.slice none 0 0, .slice none 0 0] 29) = x := ⟨_, rfl⟩
         rw [hp, hw] at z_2_3_7_9
         rw [hp, hw]
         clear hp hw
         refine hK.out _ _ ⟨(blk_cell z_2_3_7_9.gb 0).trans rfl, z_2_3_7_9.bare⟩ (fun hHeld => ?_)
         clear hK K
         refine norm_ (a' := ?_) ?_ ?_
         rotate_left
         ·show Act.put _ (some 11) _ = _
          simp only [Act.put, List.setIfInBounds_toArray, List.set_cons_zero, List.set_cons_succ, i64_w, i32_w]
          rfl
         exact norm_ (by simp only [putAll, Act.put, List.setIfInBounds_toArray, List.set_cons_zero, List.set_cons_succ]) (hCont ((A46, c46), (A47, c47), (A51, c51), p) _ ⟨hHeld, z_2_3_7_9⟩)
        ·skip
         refine value_ (w1 := ?_) (v := ?_) (by rfl) rfl ?_ ?_
         rotate_left 2
         ·go_simp
          constructor
          ·rfl
          ·rfl
         have z_2_3_9 := RdQ.set11 z_2_3
         obtain ⟨p, hp⟩ : ∃ x, (w38).heap.size = x := ⟨_, rfl⟩
         obtain ⟨w99, hw⟩ : ∃ x, World.alloc w38 (.cells #[.slice none 0 0, .slice none 0 0] 29) = x := ⟨_, rfl⟩
         rw [hp, hw] at z_2_3_9
         rw [hp, hw]
         clear hp hw
         refine hK.out _ _ ⟨(blk_cell z_2_3_9.gb 0).trans rfl, z_2_3_9.bare⟩ (fun hHeld => ?_)
         clear hK K
         refine norm_ (a' := ?_) ?_ ?_
         rotate_left
         ·show Act.put _ (some 11) _ = _
          simp only [Act.put, List.setIfInBounds_toArray, List.set_cons_zero, List.set_cons_succ, i64_w, i32_w]
          rfl
         refine one_ (i := 7) (N := some 51) #[true, true, true, true, true, true, true, true, false, true, false] rfl rfl (by kernel_rfl) (by decide) (fun K hK => ?_)
         refine Kd.R_append_rows_step (Kd.int .i64) (w0 := w6) w6.heap.size (by rfl) (.tmp 47) (.tmp 50) 23 3 (.int .i64 0) 8 rfl Tryd.underlying23 Go.Proofs.YtamcacahjlaogaaDoor.Ln.info3 rfl (by decide) (by decide) (.slice A47 0 c47) [] (al.take (m' + 1)) (some ad) (m' + 1) ca (fun _ => True) (fun _ => False) ?sE ?xE ?hO ?hR (fun _ _ h => h) (fun _ h => h.elim) (fun _ _ => trivial) ?hB ?hb ?hL ?_
         case sE => rfl
         case xE => rfl
         case hO => exact z_2_3_9.c47 _ rfl
         case hR => exact C_pre (Kd.R_reads' z_2_3_9.al).2.2 (m' + 1) HF2.out
         case hB => exact z_2_3_9.bel
         case hb => exact z_2_3_9.bel.size
         case hL => have := HM.out; simp only [List.length_nil]; omega
         intro v51 w80 hR51 hb51 hg51 _
         rw [List.nil_append] at hR51
         obtain ⟨A51, c51, e51⟩ : ∃ A c, v51 = .slice A (m' + 1) c := by have h := Kd.R_slice hR51; rw [List.length_take, Nat.min_eq_left HF2.out] at h; exact h
         subst e51
         have z_2_3_9_7 := RdQ.set51 z_2_3_9 GB6.out.1 GB6.out.2 hg51 hb51 hR51
         clear hR51 hb51 hg51
         refine hK.out _ _ ⟨(blk_cell z_2_3_9_7.gb 0).trans rfl, z_2_3_9_7.bare⟩ (fun hHeld => ?_)
         clear hK K
         refine norm_ (a' := ?_) ?_ ?_
         rotate_left
         ·show Act.put _ (some 51) _ = _
          simp only [Act.put, List.setIfInBounds_toArray, List.set_cons_zero, List.set_cons_succ, i64_w, i32_w]
          rfl
         refine pure_ (i := 8) (N := some 52) (v := ?_) (a' := ?_) #[true, true, true, true, true, true, true, true, true, true, false] rfl rfl (by kernel_rfl) (fun _ _ _ h => h) (Or.inl ⟨by rfl, ?_⟩) ?_ ?_
         rotate_left
         ·intro w'
          go_simp
          with_reducible rfl
         rotate_left
         ·simp only [Act.put, List.setIfInBounds_toArray, List.set_cons_zero, List.set_cons_succ, i64_w, i32_w]
          rfl
         exact norm_ (by simp only [putAll, Act.put, List.setIfInBounds_toArray, List.set_cons_zero, List.set_cons_succ]) (hCont ((A46, c46), (A47, c47), (A51, c51), p) _ ⟨hHeld, z_2_3_9_7⟩)
       ·skip
        refine value_ (w1 := ?_) (v := ?_) (by rfl) rfl ?_ ?_
        rotate_left 2
        ·go_simp
         constructor
         ·rfl
         ·rfl
        have z_2_9 := RdQ.set11 z_2
        obtain ⟨p, hp⟩ : ∃ x, (w27).heap.size = x := ⟨_, rfl⟩
        obtain ⟨w98, hw⟩ : ∃ x, World.alloc w27 (.cells #[.slice none 0 0, .slice none 0 0] 29) = x := ⟨_, rfl⟩
        rw [hp, hw] at z_2_9
        rw [hp, hw]
        clear hp hw
        refine hK.out _ _ ⟨(blk_cell z_2_9.gb 0).trans rfl, z_2_9.bare⟩ (fun hHeld => ?_)
        clear hK K
        refine norm_ (a' := ?_) ?_ ?_
        rotate_left
        ·show Act.put _ (some 11) _ = _
         simp only [Act.put, List.setIfInBounds_toArray, List.set_cons_zero, List.set_cons_succ, i64_w, i32_w]
         rfl
        refine one_ (i := 3) (N := some 47) #[true, true, true, true, true, true, true, false, false, true, false] rfl rfl (by kernel_rfl) (by decide) (fun K hK => ?_)
        refine Kd.R_lit_step (Kd.int .i64) _ 3 ?hg (N := 47) ?hd (xs := ([] : List Int)) (inner := []) (ok := fun _ => True) (okp := fun _ => True) ?hr ?hp (fun _ hk => hk) trivial (Below.refl _ _) (Nat.le_refl _) (by simp) ?_
        (case hd => rfl)
        (case hg => rfl)
        (case hr => first | (go_simp; done) | (go_simp; rfl))
        (case hp => exact (Reps.none _ _))
        intro v47 w39 hR hb _ _
        obtain ⟨A47, c47, e47⟩ : ∃ A c, v47 = .slice A 0 c := Kd.R_slice hR
        subst e47
        have z_2_9_3 := RdQ.set47 z_2_9 hb hR
        clear hb hR
        refine hK.out _ _ ⟨(blk_cell z_2_9_3.gb 0).trans rfl, z_2_9_3.bare⟩ (fun hHeld => ?_)
        clear hK K
        refine norm_ (a' := ?_) ?_ ?_
        rotate_left
        ·show Act.put _ (some 47) _ = _
         simp only [Act.put, List.setIfInBounds_toArray, List.set_cons_zero, List.set_cons_succ, i64_w, i32_w]
         rfl
        refine one_ (i := 7) (N := some 51) #[true, true, true, true, true, true, true, true, false, true, false] rfl rfl (by kernel_rfl) (by decide) (fun K hK => ?_)
        refine Kd.R_append_rows_step (Kd.int .i64) (w0 := w6) w6.heap.size (by rfl) (.tmp 47) (.tmp 50) 23 3 (.int .i64 0) 8 rfl Tryd.underlying23 Go.Proofs.YtamcacahjlaogaaDoor.Ln.info3 rfl (by decide) (by decide) (.slice A47 0 c47) [] (al.take (m' + 1)) (some ad) (m' + 1) ca (fun _ => True) (fun _ => False) ?sE ?xE ?hO ?hR (fun _ _ h => h) (fun _ h => h.elim) (fun _ _ => trivial) ?hB ?hb ?hL ?_
        case sE => rfl
        case xE => rfl
        case hO => exact z_2_9_3.c47 _ rfl
        case hR => exact C_pre (Kd.R_reads' z_2_9_3.al).2.2 (m' + 1) HF2.out
        case hB => exact z_2_9_3.bel
        case hb => exact z_2_9_3.bel.size
        case hL => have := HM.out; simp only [List.length_nil]; omega
        intro v51 w80 hR51 hb51 hg51 _
        rw [List.nil_append] at hR51
        obtain ⟨A51, c51, e51⟩ : ∃ A c, v51 = .slice A (m' + 1) c := by have h := Kd.R_slice hR51; rw [List.length_take, Nat.min_eq_left HF2.out] at h; exact h
        subst e51
        have z_2_9_3_7 := RdQ.set51 z_2_9_3 GB6.out.1 GB6.out.2 hg51 hb51 hR51
        clear hR51 hb51 hg51
        refine hK.out _ _ ⟨(blk_cell z_2_9_3_7.gb 0).trans rfl, z_2_9_3_7.bare⟩ (fun hHeld => ?_)
        clear hK K
        refine norm_ (a' := ?_) ?_ ?_
        rotate_left
        ·show Act.put _ (some 51) _ = _
         simp only [Act.put, List.setIfInBounds_toArray, List.set_cons_zero, List.set_cons_succ, i64_w, i32_w]
         rfl
        refine pure_ (i := 8) (N := some 52) (v := ?_) (a' := ?_) #[true, true, true, true, true, true, true, true, true, true, false] rfl rfl (by kernel_rfl) (fun _ _ _ h => h) (Or.inl ⟨by rfl, ?_⟩) ?_ ?_
        rotate_left
        ·intro w'
         go_simp
         with_reducible rfl
        rotate_left
        ·simp only [Act.put, List.setIfInBounds_toArray, List.set_cons_zero, List.set_cons_succ, i64_w, i32_w]
         rfl
        exact norm_ (by simp only [putAll, Act.put, List.setIfInBounds_toArray, List.set_cons_zero, List.set_cons_succ]) (hCont ((A46, c46), (A47, c47), (A51, c51), p) _ ⟨hHeld, z_2_9_3_7⟩)
      ·skip
       refine Kd.R_lit_step (Kd.int .i64) _ 3 ?hg (N := 47) ?hd (xs := ([] : List Int)) (inner := []) (ok := fun _ => True) (okp := fun _ => True) ?hr ?hp (fun _ hk => hk) trivial (Below.refl _ _) (Nat.le_refl _) (by simp) ?_
       (case hd => rfl)
       (case hg => rfl)
       (case hr => first | (go_simp; done) | (go_simp; rfl))
       (case hp => exact (Reps.none _ _))
       intro v47 w37 hR hb _ _
       obtain ⟨A47, c47, e47⟩ : ∃ A c, v47 = .slice A 0 c := Kd.R_slice hR
       subst e47
       have z_3 := RdQ.set47 z_ hb hR
       clear hb hR
       refine hK.out _ _ ⟨(blk_cell z_3.gb 0).trans rfl, z_3.bare⟩ (fun hHeld => ?_)
       clear hK K
       refine norm_ (a' := ?_) ?_ ?_
       rotate_left
       ·show Act.put _ (some 47) _ = _
        simp only [Act.put, List.setIfInBounds_toArray, List.set_cons_zero, List.set_cons_succ, i64_w, i32_w]
        rfl
       refine two_ (i := 2) (j := 9) (Ni := some 46) (Nj := some 11) #[true, true, true, true, true, true, true, false, false, false, false] #[true, true, false, true, true, true, true, false, false, true, false] rfl rfl rfl rfl (by kernel_rfl) (by decide) (by decide) (fun K hK => ?_) (fun K hK => ?_)
       ·skip
        refine goes_ Tryd.func51 (by kernel_rfl) rfl #[.slice A0 gs.length c0] (by rfl) rfl rfl (by simp only [List.map_toArray, List.map_cons, List.map_nil]; rfl) ?_
        with_reducible refine (copyRows_any _ gs A0 c0 (Kd.C_below HR.out ((HB01.out.trans (Below.mono HB6.out HB01.out.size)).trans (Below.mono hHeld.2.bel HL6.out))) hc0 HF.out).mono ?_
        rintro e w28 ⟨v46, rfl, hS, hb⟩
        refine ⟨_, rfl, ?_⟩
        obtain ⟨A46, c46, e46⟩ := Kd.S_slice hS
        subst e46
        have z_3_2 := RdQ.set46 z_3 hb hS
        clear hb hS
        refine hK.out _ _ ⟨(blk_cell z_3_2.gb 0).trans rfl, z_3_2.bare⟩ (fun hHeld => ?_)
        clear hK K
        refine norm_ (a' := ?_) ?_ ?_
        rotate_left
        ·show Act.put _ (some 46) _ = _
         simp only [Act.put, List.setIfInBounds_toArray, List.set_cons_zero, List.set_cons_succ, i64_w, i32_w]
         rfl
        refine two_ (i := 7) (j := 9) (Ni := some 51) (Nj := some 11) #[true, true, true, true, true, true, true, true, false, false, false] #[true, true, true, true, true, true, true, false, false, true, false] rfl rfl rfl rfl (by kernel_rfl) (by decide) (by decide) (fun K hK => ?_) (fun K hK => ?_)
        ·skip
         refine Kd.R_append_rows_step (Kd.int .i64) (w0 := w6) w6.heap.size (by rfl) (.tmp 47) (.tmp 50) 23 3 (.int .i64 0) 8 rfl Tryd.underlying23 Go.Proofs.YtamcacahjlaogaaDoor.Ln.info3 rfl (by decide) (by decide) (.slice A47 0 c47) [] (al.take (m' + 1)) (some ad) (m' + 1) ca (fun _ => True) (fun _ => False) ?sE ?xE ?hO ?hR (fun _ _ h => h) (fun _ h => h.elim) (fun _ _ => trivial) ?hB ?hb ?hL ?_
         case sE => rfl
         case xE => rfl
         case hO => exact z_3_2.c47 _ rfl
         case hR => exact C_pre (Kd.R_reads' z_3_2.al).2.2 (m' + 1) HF2.out
         case hB => exact z_3_2.bel
         case hb => exact z_3_2.bel.size
         case hL => have := HM.out; simp only [List.length_nil]; omega
         intro v51 w79 hR51 hb51 hg51 _
         rw [List.nil_append] at hR51
         obtain ⟨A51, c51, e51⟩ : ∃ A c, v51 = .slice A (m' + 1) c := by have h := Kd.R_slice hR51; rw [List.length_take, Nat.min_eq_left HF2.out] at h; exact h
         subst e51
         have z_3_2_7 := RdQ.set51 z_3_2 GB6.out.1 GB6.out.2 hg51 hb51 hR51
         clear hR51 hb51 hg51
         refine hK.out _ _ ⟨(blk_cell z_3_2_7.gb 0).trans rfl, z_3_2_7.bare⟩ (fun hHeld => ?_)
         clear hK K
         refine norm_ (a' := ?_) ?_ ?_
         rotate_left
         ·show Act.put _ (some 51) _ = _
          simp only [Act.put, List.setIfInBounds_toArray, List.set_cons_zero, List.set_cons_succ, i64_w, i32_w]
          rfl
         refine pure_ (i := 8) (N := some 52) (v := ?_) (a' := ?_) #[true, true, true, true, true, true, true, true, true, false, false] rfl rfl (by kernel_rfl) (fun _ _ _ h => h) (Or.inl ⟨by rfl, ?_⟩) ?_ ?_
         rotate_left
         ·intro w'
          go_simp
          with_reducible rfl
         rotate_left
         ·simp only [Act.put, List.setIfInBounds_toArray, List.set_cons_zero, List.set_cons_succ, i64_w, i32_w]
          rfl
         refine one_ (i := 9) (N := some 11) #[true, true, true, true, true, true, true, true, true, true, false] rfl rfl (by kernel_rfl) (by decide) (fun K hK => ?_)
         refine value_ (w1 := ?_) (v := ?_) (by rfl) rfl ?_ ?_
         rotate_left 2
         ·go_simp
          constructor
          ·rfl
          ·rfl
         have z_3_2_7_9 := RdQ.set11 z_3_2_7
         obtain ⟨p, hp⟩ : ∃ x, (w79).heap.size = x := ⟨_, rfl⟩
         obtain ⟨w100, hw⟩ : ∃ x, World.alloc w79 (.cells #[.slice none 0 0, .slice none 0 0] 29) = x := ⟨_, rfl⟩
         rw [hp, hw] at z_3_2_7_9
         rw [hp, hw]
         clear hp hw
         refine hK.out _ _ ⟨(blk_cell z_3_2_7_9.gb 0).trans rfl, z_3_2_7_9.bare⟩ (fun hHeld => ?_)
         clear hK K
         refine norm_ (a' := ?_) ?_ ?_
         rotate_left
         ·show Act.put _ (some 11) _ = _
          simp only [Act.put, List.setIfInBounds_toArray, List.set_cons_zero, List.set_cons_succ, i64_w, i32_w]
          rfl
         exact norm_ (by simp only [putAll, Act.put, List.setIfInBounds_toArray, List.set_cons_zero, List.set_cons_succ]) (hCont ((A46, c46), (A47, c47), (A51, c51), p) _ ⟨hHeld, z_3_2_7_9⟩)
        ·skip
         refine value_ (w1 := ?_) (v := ?_) (by rfl) rfl ?_ ?_
         rotate_left 2
         ·go_simp
          constructor
          ·rfl
          ·rfl
         have z_3_2_9 := RdQ.set11 z_3_2
         obtain ⟨p, hp⟩ : ∃ x, (w28).heap.size = x := ⟨_, rfl⟩
         obtain ⟨w99, hw⟩ : ∃ x, World.alloc w28 (.cells #[.slice none 0 0, .slice none 0 0] 29) = x := ⟨_, rfl⟩
         rw [hp, hw] at z_3_2_9
         rw [hp, hw]
         clear hp hw
         refine hK.out _ _ ⟨(blk_cell z_3_2_9.gb 0).trans rfl, z_3_2_9.bare⟩ (fun hHeld => ?_)
         clear hK K
         refine norm_ (a' := ?_) ?_ ?_
         rotate_left
         ·show Act.put _ (some 11) _ = _
          simp only [Act.put, List.setIfInBounds_toArray, List.set_cons_zero, List.set_cons_succ, i64_w, i32_w]
          rfl
         refine one_ (i := 7) (N := some 51) #[true, true, true, true, true, true, true, true, false, true, false] rfl rfl (by kernel_rfl) (by decide) (fun K hK => ?_)
         refine Kd.R_append_rows_step (Kd.int .i64) (w0 := w6) w6.heap.size (by rfl) (.tmp 47) (.tmp 50) 23 3 (.int .i64 0) 8 rfl Tryd.underlying23 Go.Proofs.YtamcacahjlaogaaDoor.Ln.info3 rfl (by decide) (by decide) (.slice A47 0 c47) [] (al.take (m' + 1)) (some ad) (m' + 1) ca (fun _ => True) (fun _ => False) ?sE ?xE ?hO ?hR (fun _ _ h => h) (fun _ h => h.elim) (fun _ _ => trivial) ?hB ?hb ?hL ?_
         case sE => rfl
         case xE => rfl
         case hO => exact z_3_2_9.c47 _ rfl
         case hR => exact C_pre (Kd.R_reads' z_3_2_9.al).2.2 (m' + 1) HF2.out
         case hB => exact z_3_2_9.bel
         case hb => exact z_3_2_9.bel.size
         case hL => have := HM.out; simp only [List.length_nil]; omega
         intro v51 w80 hR51 hb51 hg51 _
         rw [List.nil_append] at hR51
         obtain ⟨A51, c51, e51⟩ : ∃ A c, v51 = .slice A (m' + 1) c := by have h := Kd.R_slice hR51; rw [List.length_take, Nat.min_eq_left HF2.out] at h; exact h
         subst e51
         have z_3_2_9_7 := RdQ.set51 z_3_2_9 GB6.out.1 GB6.out.2 hg51 hb51 hR51
         clear hR51 hb51 hg51
         refine hK.out _ _ ⟨(blk_cell z_3_2_9_7.gb 0).trans rfl, z_3_2_9_7.bare⟩ (fun hHeld => ?_)
         clear hK K
         refine norm_ (a' := ?_) ?_ ?_
         rotate_left
         ·show Act.put _ (some 51) _ = _
          simp only [Act.put, List.setIfInBounds_toArray, List.set_cons_zero, List.set_cons_succ, i64_w, i32_w]
          rfl
         refine pure_ (i := 8) (N := some 52) (v := ?_) (a' := ?_) #[true, true, true, true, true, true, true, true, true, true, false] rfl rfl (by kernel_rfl) (fun _ _ _ h => h) (Or.inl ⟨by rfl, ?_⟩) ?_ ?_
         rotate_left
         ·intro w'
          go_simp
          with_reducible rfl
         rotate_left
         ·simp only [Act.put, List.setIfInBounds_toArray, List.set_cons_zero, List.set_cons_succ, i64_w, i32_w]
          rfl
         exact norm_ (by simp only [putAll, Act.put, List.setIfInBounds_toArray, List.set_cons_zero, List.set_cons_succ]) (hCont ((A46, c46), (A47, c47), (A51, c51), p) _ ⟨hHeld, z_3_2_9_7⟩)
       ·skip
        refine value_ (w1 := ?_) (v := ?_) (by rfl) rfl ?_ ?_
        rotate_left 2
        ·go_simp
         constructor
         ·rfl
         ·rfl
        have z_3_9 := RdQ.set11 z_3
        obtain ⟨p, hp⟩ : ∃ x, (w37).heap.size = x := ⟨_, rfl⟩
        obtain ⟨w98, hw⟩ : ∃ x, World.alloc w37 (.cells #[.slice none 0 0, .slice none 0 0] 29) = x := ⟨_, rfl⟩
        rw [hp, hw] at z_3_9
        rw [hp, hw]
        clear hp hw
        refine hK.out _ _ ⟨(blk_cell z_3_9.gb 0).trans rfl, z_3_9.bare⟩ (fun hHeld => ?_)
        clear hK K
        refine norm_ (a' := ?_) ?_ ?_
        rotate_left
        ·show Act.put _ (some 11) _ = _
         simp only [Act.put, List.setIfInBounds_toArray, List.set_cons_zero, List.set_cons_succ, i64_w, i32_w]
         rfl
        refine one_ (i := 2) (N := some 46) #[true, true, true, true, true, true, true, false, false, true, false] rfl rfl (by kernel_rfl) (by decide) (fun K hK => ?_)
        refine goes_ Tryd.func51 (by kernel_rfl) rfl #[.slice A0 gs.length c0] (by rfl) rfl rfl (by simp only [List.map_toArray, List.map_cons, List.map_nil]; rfl) ?_
        with_reducible refine (copyRows_any _ gs A0 c0 (Kd.C_below HR.out ((HB01.out.trans (Below.mono HB6.out HB01.out.size)).trans (Below.mono hHeld.2.bel HL6.out))) hc0 HF.out).mono ?_
        rintro e w29 ⟨v46, rfl, hS, hb⟩
        refine ⟨_, rfl, ?_⟩
        obtain ⟨A46, c46, e46⟩ := Kd.S_slice hS
        subst e46
        have z_3_9_2 := RdQ.set46 z_3_9 hb hS
        clear hb hS
        refine hK.out _ _ ⟨(blk_cell z_3_9_2.gb 0).trans rfl, z_3_9_2.bare⟩ (fun hHeld => ?_)
        clear hK K
        refine norm_ (a' := ?_) ?_ ?_
        rotate_left
        ·show Act.put _ (some 46) _ = _
         simp only [Act.put, List.setIfInBounds_toArray, List.set_cons_zero, List.set_cons_succ, i64_w, i32_w]
         rfl
        refine one_ (i := 7) (N := some 51) #[true, true, true, true, true, true, true, true, false, true, false] rfl rfl (by kernel_rfl) (by decide) (fun K hK => ?_)
        refine Kd.R_append_rows_step (Kd.int .i64) (w0 := w6) w6.heap.size (by rfl) (.tmp 47) (.tmp 50) 23 3 (.int .i64 0) 8 rfl Tryd.underlying23 Go.Proofs.YtamcacahjlaogaaDoor.Ln.info3 rfl (by decide) (by decide) (.slice A47 0 c47) [] (al.take (m' + 1)) (some ad) (m' + 1) ca (fun _ => True) (fun _ => False) ?sE ?xE ?hO ?hR (fun _ _ h => h) (fun _ h => h.elim) (fun _ _ => trivial) ?hB ?hb ?hL ?_
        case sE => rfl
        case xE => rfl
        case hO => exact z_3_9_2.c47 _ rfl
        case hR => exact C_pre (Kd.R_reads' z_3_9_2.al).2.2 (m' + 1) HF2.out
        case hB => exact z_3_9_2.bel
        case hb => exact z_3_9_2.bel.size
        case hL => have := HM.out; simp only [List.length_nil]; omega
        intro v51 w80 hR51 hb51 hg51 _
        rw [List.nil_append] at hR51
        obtain ⟨A51, c51, e51⟩ : ∃ A c, v51 = .slice A (m' + 1) c := by have h := Kd.R_slice hR51; rw [List.length_take, Nat.min_eq_left HF2.out] at h; exact h
        subst e51
        have z_3_9_2_7 := RdQ.set51 z_3_9_2 GB6.out.1 GB6.out.2 hg51 hb51 hR51
        clear hR51 hb51 hg51
        refine hK.out _ _ ⟨(blk_cell z_3_9_2_7.gb 0).trans rfl, z_3_9_2_7.bare⟩ (fun hHeld => ?_)
        clear hK K
        refine norm_ (a' := ?_) ?_ ?_
        rotate_left
        ·show Act.put _ (some 51) _ = _
         simp only [Act.put, List.setIfInBounds_toArray, List.set_cons_zero, List.set_cons_succ, i64_w, i32_w]
         rfl
        refine pure_ (i := 8) (N := some 52) (v := ?_) (a' := ?_) #[true, true, true, true, true, true, true, true, true, true, false] rfl rfl (by kernel_rfl) (fun _ _ _ h => h) (Or.inl ⟨by rfl, ?_⟩) ?_ ?_
        rotate_left
        ·intro w'
         go_simp
         with_reducible rfl
        rotate_left
        ·simp only [Act.put, List.setIfInBounds_toArray, List.set_cons_zero, List.set_cons_succ, i64_w, i32_w]
         rfl
        exact norm_ (by simp only [putAll, Act.put, List.setIfInBounds_toArray, List.set_cons_zero, List.set_cons_succ]) (hCont ((A46, c46), (A47, c47), (A51, c51), p) _ ⟨hHeld, z_3_9_2_7⟩)
      ·skip
       refine value_ (w1 := ?_) (v := ?_) (by rfl) rfl ?_ ?_
       rotate_left 2
       ·go_simp
        constructor
        ·rfl
        ·rfl
       have z_9 := RdQ.set11 z_
       obtain ⟨p, hp⟩ : ∃ x, (w6).heap.size = x := ⟨_, rfl⟩
       obtain ⟨w97, hw⟩ : ∃ x, World.alloc w6 (.cells #[.slice none 0 0, .slice none 0 0] 29) = x := ⟨_, rfl⟩
       rw [hp, hw] at z_9
       rw [hp, hw]
       clear hp hw
       refine hK.out _ _ ⟨(blk_cell z_9.gb 0).trans rfl, z_9.bare⟩ (fun hHeld => ?_)
       clear hK K
       refine norm_ (a' := ?_) ?_ ?_
       rotate_left
       ·show Act.put _ (some 11) _ = _
        simp only [Act.put, List.setIfInBounds_toArray, List.set_cons_zero, List.set_cons_succ, i64_w, i32_w]
        rfl
       refine two_ (i := 2) (j := 3) (Ni := some 46) (Nj := some 47) #[true, true, true, false, true, true, true, false, false, true, false] #[true, true, false, true, true, true, true, false, false, true, false] rfl rfl rfl rfl (by kernel_rfl) (by decide) (by decide) (fun K hK => ?_) (fun K hK => ?_)
       ·skip
        refine goes_ Tryd.func51 (by kernel_rfl) rfl #[.slice A0 gs.length c0] (by rfl) rfl rfl (by simp only [List.map_toArray, List.map_cons, List.map_nil]; rfl) ?_
        with_reducible refine (copyRows_any _ gs A0 c0 (Kd.C_below HR.out ((HB01.out.trans (Below.mono HB6.out HB01.out.size)).trans (Below.mono hHeld.2.bel HL6.out))) hc0 HF.out).mono ?_
        rintro e w28 ⟨v46, rfl, hS, hb⟩
        refine ⟨_, rfl, ?_⟩
        obtain ⟨A46, c46, e46⟩ := Kd.S_slice hS
        subst e46
        have z_9_2 := RdQ.set46 z_9 hb hS
        clear hb hS
        refine hK.out _ _ ⟨(blk_cell z_9_2.gb 0).trans rfl, z_9_2.bare⟩ (fun hHeld => ?_)
        clear hK K
        refine norm_ (a' := ?_) ?_ ?_
        rotate_left
        ·show Act.put _ (some 46) _ = _
         simp only [Act.put, List.setIfInBounds_toArray, List.set_cons_zero, List.set_cons_succ, i64_w, i32_w]
         rfl
        refine one_ (i := 3) (N := some 47) #[true, true, true, true, true, true, true, false, false, true, false] rfl rfl (by kernel_rfl) (by decide) (fun K hK => ?_)
        refine Kd.R_lit_step (Kd.int .i64) _ 3 ?hg (N := 47) ?hd (xs := ([] : List Int)) (inner := []) (ok := fun _ => True) (okp := fun _ => True) ?hr ?hp (fun _ hk => hk) trivial (Below.refl _ _) (Nat.le_refl _) (by simp) ?_
        (case hd => rfl)
        (case hg => rfl)
        (case hr => first | (go_simp; done) | (go_simp; rfl))
        (case hp => exact (Reps.none _ _))
        intro v47 w39 hR hb _ _
        obtain ⟨A47, c47, e47⟩ : ∃ A c, v47 = .slice A 0 c := Kd.R_slice hR
        subst e47
        have z_9_2_3 := RdQ.set47 z_9_2 hb hR
        clear hb hR
        refine hK.out _ _ ⟨(blk_cell z_9_2_3.gb 0).trans rfl, z_9_2_3.bare⟩ (fun hHeld => ?_)
        clear hK K
        refine norm_ (a' := ?_) ?_ ?_
        rotate_left
        ·show Act.put _ (some 47) _ = _
         simp only [Act.put, List.setIfInBounds_toArray, List.set_cons_zero, List.set_cons_succ, i64_w, i32_w]
         rfl
        refine one_ (i := 7) (N := some 51) #[true, true, true, true, true, true, true, true, false, true, false] rfl rfl (by kernel_rfl) (by decide) (fun K hK => ?_)
        refine Kd.R_append_rows_step (Kd.int .i64) (w0 := w6) w6.heap.size (by rfl) (.tmp 47) (.tmp 50) 23 3 (.int .i64 0) 8 rfl Tryd.underlying23 Go.Proofs.YtamcacahjlaogaaDoor.Ln.info3 rfl (by decide) (by decide) (.slice A47 0 c47) [] (al.take (m' + 1)) (some ad) (m' + 1) ca (fun _ => True) (fun _ => False) ?sE ?xE ?hO ?hR (fun _ _ h => h) (fun _ h => h.elim) (fun _ _ => trivial) ?hB ?hb ?hL ?_
        case sE => rfl
        case xE => rfl
        case hO => exact z_9_2_3.c47 _ rfl
        case hR => exact C_pre (Kd.R_reads' z_9_2_3.al).2.2 (m' + 1) HF2.out
        case hB => exact z_9_2_3.bel
        case hb => exact z_9_2_3.bel.size
        case hL => have := HM.out; simp only [List.length_nil]; omega
        intro v51 w80 hR51 hb51 hg51 _
        rw [List.nil_append] at hR51
        obtain ⟨A51, c51, e51⟩ : ∃ A c, v51 = .slice A (m' + 1) c := by have h := Kd.R_slice hR51; rw [List.length_take, Nat.min_eq_left HF2.out] at h; exact h
        subst e51
        have z_9_2_3_7 := RdQ.set51 z_9_2_3 GB6.out.1 GB6.out.2 hg51 hb51 hR51
        clear hR51 hb51 hg51
        refine hK.out _ _ ⟨(blk_cell z_9_2_3_7.gb 0).trans rfl, z_9_2_3_7.bare⟩ (fun hHeld => ?_)
        clear hK K
        refine norm_ (a' := ?_) ?_ ?_
        rotate_left
        ·show Act.put _ (some 51) _ = _
         simp only [Act.put, List.setIfInBounds_toArray, List.set_cons_zero, List.set_cons_succ, i64_w, i32_w]
         rfl
        refine pure_ (i := 8) (N := some 52) (v := ?_) (a' := ?_) #[true, true, true, true, true, true, true, true, true, true, false] rfl rfl (by kernel_rfl) (fun _ _ _ h => h) (Or.inl ⟨by rfl, ?_⟩) ?_ ?_
        rotate_left
        ·intro w'
         go_simp
         with_reducible rfl
        rotate_left
        ·simp only [Act.put, List.setIfInBounds_toArray, List.set_cons_zero, List.set_cons_succ, i64_w, i32_w]
         rfl
        exact norm_ (by simp only [putAll, Act.put, List.setIfInBounds_toArray, List.set_cons_zero, List.set_cons_succ]) (hCont ((A46, c46), (A47, c47), (A51, c51), p) _ ⟨hHeld, z_9_2_3_7⟩)
       ·skip
        refine Kd.R_lit_step (Kd.int .i64) _ 3 ?hg (N := 47) ?hd (xs := ([] : List Int)) (inner := []) (ok := fun _ => True) (okp := fun _ => True) ?hr ?hp (fun _ hk => hk) trivial (Below.refl _ _) (Nat.le_refl _) (by simp) ?_
        (case hd => rfl)
        (case hg => rfl)
        (case hr => first | (go_simp; done) | (go_simp; rfl))
        (case hp => exact (Reps.none _ _))
        intro v47 w38 hR hb _ _
        obtain ⟨A47, c47, e47⟩ : ∃ A c, v47 = .slice A 0 c := Kd.R_slice hR
        subst e47
        have z_9_3 := RdQ.set47 z_9 hb hR
        clear hb hR
        refine hK.out _ _ ⟨(blk_cell z_9_3.gb 0).trans rfl, z_9_3.bare⟩ (fun hHeld => ?_)
        clear hK K
        refine norm_ (a' := ?_) ?_ ?_
        rotate_left
        ·show Act.put _ (some 47) _ = _
         simp only [Act.put, List.setIfInBounds_toArray, List.set_cons_zero, List.set_cons_succ, i64_w, i32_w]
         rfl
        refine one_ (i := 2) (N := some 46) #[true, true, true, true, true, true, true, false, false, true, false] rfl rfl (by kernel_rfl) (by decide) (fun K hK => ?_)
        refine goes_ Tryd.func51 (by kernel_rfl) rfl #[.slice A0 gs.length c0] (by rfl) rfl rfl (by simp only [List.map_toArray, List.map_cons, List.map_nil]; rfl) ?_
        with_reducible refine (copyRows_any _ gs A0 c0 (Kd.C_below HR.out ((HB01.out.trans (Below.mono HB6.out HB01.out.size)).trans (Below.mono hHeld.2.bel HL6.out))) hc0 HF.out).mono ?_
        rintro e w29 ⟨v46, rfl, hS, hb⟩
        refine ⟨_, rfl, ?_⟩
        obtain ⟨A46, c46, e46⟩ := Kd.S_slice hS
        subst e46
        have z_9_3_2 := RdQ.set46 z_9_3 hb hS
        clear hb hS
        refine hK.out _ _ ⟨(blk_cell z_9_3_2.gb 0).trans rfl, z_9_3_2.bare⟩ (fun hHeld => ?_)
        clear hK K
        refine norm_ (a' := ?_) ?_ ?_
        rotate_left
        ·show Act.put _ (some 46) _ = _
         simp only [Act.put, List.setIfInBounds_toArray, List.set_cons_zero, List.set_cons_succ, i64_w, i32_w]
         rfl
        refine one_ (i := 7) (N := some 51) #[true, true, true, true, true, true, true, true, false, true, false] rfl rfl (by kernel_rfl) (by decide) (fun K hK => ?_)
        refine Kd.R_append_rows_step (Kd.int .i64) (w0 := w6) w6.heap.size (by rfl) (.tmp 47) (.tmp 50) 23 3 (.int .i64 0) 8 rfl Tryd.underlying23 Go.Proofs.YtamcacahjlaogaaDoor.Ln.info3 rfl (by decide) (by decide) (.slice A47 0 c47) [] (al.take (m' + 1)) (some ad) (m' + 1) ca (fun _ => True) (fun _ => False) ?sE ?xE ?hO ?hR (fun _ _ h => h) (fun _ h => h.elim) (fun _ _ => trivial) ?hB ?hb ?hL ?_
        case sE => rfl
        case xE => rfl
        case hO => exact z_9_3_2.c47 _ rfl
        case hR => exact C_pre (Kd.R_reads' z_9_3_2.al).2.2 (m' + 1) HF2.out
        case hB => exact z_9_3_2.bel
        case hb => exact z_9_3_2.bel.size
        case hL => have := HM.out; simp only [List.length_nil]; omega
        intro v51 w80 hR51 hb51 hg51 _
        rw [List.nil_append] at hR51
        obtain ⟨A51, c51, e51⟩ : ∃ A c, v51 = .slice A (m' + 1) c := by have h := Kd.R_slice hR51; rw [List.length_take, Nat.min_eq_left HF2.out] at h; exact h
        subst e51
        have z_9_3_2_7 := RdQ.set51 z_9_3_2 GB6.out.1 GB6.out.2 hg51 hb51 hR51
        clear hR51 hb51 hg51
        refine hK.out _ _ ⟨(blk_cell z_9_3_2_7.gb 0).trans rfl, z_9_3_2_7.bare⟩ (fun hHeld => ?_)
        clear hK K
        refine norm_ (a' := ?_) ?_ ?_
        rotate_left
        ·show Act.put _ (some 51) _ = _
         simp only [Act.put, List.setIfInBounds_toArray, List.set_cons_zero, List.set_cons_succ, i64_w, i32_w]
         rfl
        refine pure_ (i := 8) (N := some 52) (v := ?_) (a' := ?_) #[true, true, true, true, true, true, true, true, true, true, false] rfl rfl (by kernel_rfl) (fun _ _ _ h => h) (Or.inl ⟨by rfl, ?_⟩) ?_ ?_
        rotate_left
        ·intro w'
         go_simp
         with_reducible rfl
        rotate_left
        ·simp only [Act.put, List.setIfInBounds_toArray, List.set_cons_zero, List.set_cons_succ, i64_w, i32_w]
         rfl
        exact norm_ (by simp only [putAll, Act.put, List.setIfInBounds_toArray, List.set_cons_zero, List.set_cons_succ]) (hCont ((A46, c46), (A47, c47), (A51, c51), p) _ ⟨hHeld, z_9_3_2_7⟩)
     rintro ⟨⟨A46, c46⟩, ⟨A47, c47⟩, ⟨A51, c51⟩, p⟩ w8 ⟨hHeld, zf⟩
     replace zf : RdQ w6 w0.heap.size w.heap.size rs #[.slice A0 gs.length c0, .slice A1 st.length c1] #[.slice none 0 0, .slice none 0 0] (.slice (some ad) al.length ca) al gs (al.take (m' + 1)) (some (.slice A46 gs.length c46)) none (some (.slice A51 (m' + 1) c51)) (some p) w8 := zf
     obtain ⟨p1, p2⟩ := zf.c11 p rfl
     have y0 : w8.cell? ⟨p, 0, none⟩ = some (.slice none 0 0) := (blk_cell p2 0).trans rfl
     have y1 : w8.cell? ⟨p, 1, none⟩ = some (.slice none 0 0) := (blk_cell p2 1).trans rfl
     have u0 := blk_frozen p2 0
     have u1 := blk_frozen p2 1
     have ZF := Aside0.mk zf
     have PP := Aside0.mk p1
     have PB := Aside0.mk p2
     clear p1 p2 zf
     refine norm_ (a' := ?_) ?_ ?_
     rotate_left
     ·simp only [putAll, Act.put, List.setIfInBounds_toArray, List.set_cons_zero, List.set_cons_succ]
      rfl
     refine last_ (i := 10) (N := none) #[true, true, true, true, true, true, true, true, true, true, true] rfl rfl (by kernel_rfl) (by decide) (fun K hK => ?_)
     refine skip_ (w1 := ?_) (by rfl) rfl ?_ ?_
     rotate_left
     ·go_simp
      rfl
     refine hK.out _ _ ?_
     clear hK K
     refine done_ (by kernel_rfl) ?_
     obtain ⟨w9, e9⟩ : ∃ z, (w8.setCell ⟨p, 0, none⟩ (.slice A46 gs.length c46)).setCell ⟨p, 1, none⟩ (.slice A51 (m' + 1) c51) = z := ⟨_, rfl⟩
     have hy : al.take (m' + 1) = sts Rs (m' + 1) := by
      rw [← HAL.out]
      unfold sts
      rw [← List.map_take, List.take_range, Nat.min_eq_left HKL.out]
     have hle : w.heap.size ≤ w6.heap.size := Nat.le_trans HB0.out.size HL6.out
     have LB8 : LB w8 w.heap.size (fun _ => True) (.slice A46 gs.length c46) (.slice A51 (m' + 1) c51) gs (sts Rs (m' + 1)) := ⟨Kd.S_lower (ZF.out.c46 _ rfl) hle, by rw [← hy]; exact Kd.R_lower (ZF.out.c51 _ rfl) hle⟩
     have hB9 : Below w1.heap.size w1 w9 := by rw [← e9]; exact ((HB6.out.trans (Below.mono ZF.out.bel HB6.out.size)).setCell (p := ⟨p, 0, none⟩) (Nat.le_trans HB6.out.size PP.out) _).setCell (p := ⟨p, 1, none⟩) (Nat.le_trans HB6.out.size PP.out) _
     obtain ⟨y, HY⟩ : ∃ y, Aside0 (stAt Rs line = y) := ⟨_, ⟨rfl⟩⟩
     have hll : line < gs.length := by have := HLO.out.lt; have := HKL.out; omega
     have hx9 := AX.out w9 hB9 line hll
     rw [HY.out] at hx9
     have yb : 0 ≤ y ∧ y ≤ 1000000 := by rw [← HY.out]; exact STB.out line (by omega)
     have ns : rs ≠ p := by have := GB6.out.2; have := PP.out; omega
     have rs9 : w9.heap[rs]? = some (.cells #[.slice none 0 0, .slice none 0 0] 29 (0, 0)) := by rw [← e9]; exact ((Below.heap_setCell _ ⟨p, 1, none⟩ _ rs ns).trans (Below.heap_setCell _ ⟨p, 0, none⟩ _ rs ns)).trans ZF.out.rs
     obtain ⟨w10, e10⟩ : ∃ z, w9.drew = z := ⟨_, rfl⟩
     have z10 : RdP w p (.slice A46 gs.length c46) (.slice A51 (m' + 1) c51) gs (sts Rs (m' + 1)) (ad.add line) y w10 := by
      rw [← e10]
      have hb : Below w9.heap.size w9 w9.drew := (Below.refl _ w9).drew
      refine ⟨LB.below ?_ hb, blk_below ?_ hb, (hb.cell (World.block_lt_of_cell? w9 _ hx9)).trans hx9, below_step (below_step HB1.out hB9) hb⟩
      ·rw [← e9]; exact LB.put LB8 PB.out
      ·rw [← e9]; exact blk_put (blk_put PB.out 0 _ rfl) 1 _ rfl
     have RS10 := Aside0.mk (show w10.heap[rs]? = some (.cells #[.slice none 0 0, .slice none 0 0] 29 (0, 0)) by rw [← e10]; exact blk_below rs9 (Below.refl _ w9).drew)
     have NP := Aside0.mk (show p ≠ rs from fun e => ns e.symm)
     have NA := Aside0.mk (show (ad.add line).block ≠ rs by
      have h := Kd.R_base HRA.out ad.block (by simp [Value.ownBlock])
      have := HRL.out.2
      have eb : (ad.add line).block = ad.block := add_block _ _
      rw [eb]
      omega)
     have e1 : line < al.length := by rw [HALL.out]; exact hll
     have t2 : IntKind.i64.wrap (off - y) = off - y := by rw [IntKind.wrap_i64]; omega
     have CB := Aside0.mk HOFF.out
     rw [e9]
     clear y0 y1 u0 u1 hHeld f1 f2 f3 f4 f5 z_ hx9 hB9 LB8 hy hle hll ns rs9 e9
     go_wp2
     refine start_ (n := 11) (S := fun w' => w'.cell? ⟨p, 0, none⟩ = some (.slice A46 gs.length c46) ∧ w'.cell? ⟨p, 1, none⟩ = some (.slice A51 (m' + 1) c51) ∧ w'.cell? (ad.add line) = some (.int .i64 y) ∧ RdP w p (.slice A46 gs.length c46) (.slice A51 (m' + 1) c51) gs (sts Rs (m' + 1)) (ad.add line) y w') (ds := []) #[false, false, false, false, false, false, false, false, false, false, false] (by kernel_rfl) rfl rfl ⟨(by rw [e10]; exact (blk_cell z10.pb 0).trans rfl), (by rw [e10]; exact (blk_cell z10.pb 1).trans rfl), (by rw [e10]; exact z10.ax), (by rw [e10]; exact z10)⟩ (fun hHeld => ?_)
     rw [e10] at hHeld ⊢
     clear e10
     refine pure_ (i := 1) (N := some 54) (v := ?_) (a' := ?_) #[false, true, false, false, false, false, false, false, false, false, false] rfl rfl (by kernel_rfl) (fun _ _ _ h => h) (Or.inl ⟨by rfl, ?_⟩) ?_ ?_
     rotate_left
     ·intro w'
      go_simp
      with_reducible rfl
     rotate_left
     ·simp only [Act.put, List.setIfInBounds_toArray, List.set_cons_zero, List.set_cons_succ, i64_w, i32_w]
      rfl
     refine pure_ (i := 2) (N := some 55) (v := ?_) (a' := ?_) #[false, true, true, false, false, false, false, false, false, false, false] rfl rfl (by kernel_rfl) (fun _ _ _ h => h) (Or.inl ⟨by rfl, ?_⟩) ?_ ?_
     rotate_left
     ·intro w'
      go_simp
      with_reducible rfl
     rotate_left
     ·simp only [Act.put, List.setIfInBounds_toArray, List.set_cons_zero, List.set_cons_succ, i64_w, i32_w]
      rfl
     refine pure_ (i := 3) (N := some 56) (v := ?_) (a' := ?_) #[false, true, true, true, false, false, false, false, false, false, false] rfl rfl (by kernel_rfl) (fun _ _ _ h => h) (Or.inl ⟨by rfl, ?_⟩) ?_ ?_
     rotate_left
     ·intro w'
      go_simp
      with_reducible rfl
     rotate_left
     ·simp only [Act.put, List.setIfInBounds_toArray, List.set_cons_zero, List.set_cons_succ, i64_w, i32_w]
      rfl
     refine pure_ (i := 4) (N := some 57) (v := ?_) (a' := ?_) #[false, true, true, true, true, false, false, false, false, false, false] rfl rfl (by kernel_rfl) (fun _ _ _ h => h) (Or.inl ⟨by rfl, ?_⟩) ?_ ?_
     rotate_left
     ·intro w'
      go_simp
      with_reducible rfl
     rotate_left
     ·simp only [Act.put, List.setIfInBounds_toArray, List.set_cons_zero, List.set_cons_succ, i64_w, i32_w]
      rfl
     refine pure_ (i := 5) (N := some 58) (v := ?_) (a' := ?_) #[false, true, true, true, true, true, false, false, false, false, false] rfl rfl (by kernel_rfl) (fun _ _ _ h => h) (Or.inl ⟨by rfl, ?_⟩) ?_ ?_
     rotate_left
     ·intro w'
      go_simp
      with_reducible rfl
     rotate_left
     ·simp only [Act.put, List.setIfInBounds_toArray, List.set_cons_zero, List.set_cons_succ, i64_w, i32_w]
      rfl
     refine take_ (i := 0) (N := some 53) (v := ?_) (a' := ?_) #[true, true, true, true, true, true, false, false, false, false, false] rfl rfl (by kernel_rfl) (fun _ _ _ h => h) (Or.inl ⟨by rfl, ?_⟩) hHeld ?_ ?_
     rotate_left
     ·rintro w' ⟨s0, s1, s2, s3⟩
      go_simp
      with_reducible rfl
     rotate_left
     ·simp only [Act.put, List.setIfInBounds_toArray, List.set_cons_zero, List.set_cons_succ, i64_w, i32_w]
      rfl
     refine take_ (i := 6) (N := some 59) (v := ?_) (a' := ?_) #[true, true, true, true, true, true, true, false, false, false, false] rfl rfl (by kernel_rfl) (fun _ _ _ h => h) (Or.inl ⟨by rfl, ?_⟩) hHeld ?_ ?_
     rotate_left
     ·rintro w' ⟨s0, s1, s2, s3⟩
      go_simp
      with_reducible rfl
     rotate_left
     ·simp only [Act.put, List.setIfInBounds_toArray, List.set_cons_zero, List.set_cons_succ, i64_w, i32_w]
      rfl
     refine pure_ (i := 7) (N := some 60) (v := ?_) (a' := ?_) #[true, true, true, true, true, true, true, true, false, false, false] rfl rfl (by kernel_rfl) (fun _ _ _ h => h) (Or.inl ⟨by rfl, ?_⟩) ?_ ?_
     rotate_left
     ·intro w'
      go_simp
      with_reducible rfl
     rotate_left
     ·simp only [Act.put, List.setIfInBounds_toArray, List.set_cons_zero, List.set_cons_succ, i64_w, i32_w]
      rfl
     refine one_ (i := 8) (N := none) #[true, true, true, true, true, true, true, true, true, false, false] rfl rfl (by kernel_rfl) (by decide) (fun K hK => ?_)
     have r0 := (blk_cell RS10.out 0).trans rfl
     have r1 := (blk_cell RS10.out 1).trans rfl
     have fz0 := blk_frozen RS10.out 0
     have fz1 := blk_frozen RS10.out 1
     have z11 := RdP.put hHeld.2.2.2 RS10.out NP.out NA.out HRS.out
     have rs11 := blk_put (blk_put RS10.out 0 (.slice A46 gs.length c46) rfl) 1 (.slice A51 (m' + 1) c51) rfl
     refine skip_ (w1 := ?_) (by rfl) rfl ?_ ?_
     rotate_left
     ·go_simp
      rfl
     clear r0 r1 fz0 fz1
     obtain ⟨w11, hw⟩ : ∃ x, (w10.setCell ⟨rs, 0, none⟩ (.slice A46 gs.length c46)).setCell ⟨rs, 1, none⟩ (.slice A51 (m' + 1) c51) = x := ⟨_, rfl⟩
     rw [hw] at z11 rs11
     rw [hw]
     clear hw
     refine hK.out _ _ ⟨(blk_cell z11.pb 0).trans rfl, (blk_cell z11.pb 1).trans rfl, z11.ax, z11⟩ (fun hHeld => ?_)
     clear hK K
     refine pure_ (i := 9) (N := some 5) (v := ?_) (a' := ?_) #[true, true, true, true, true, true, true, true, true, true, false] rfl rfl (by kernel_rfl) (fun _ _ _ h => h) (Or.inl ⟨by rfl, ?_⟩) ?_ ?_
     rotate_left
     ·intro w'
      go_simp
      with_reducible rfl
     rotate_left
     ·simp only [Act.put, List.setIfInBounds_toArray, List.set_cons_zero, List.set_cons_succ, i64_w, i32_w]
      rfl
     refine pure_ (i := 10) (N := some 6) (v := ?_) (a' := ?_) #[true, true, true, true, true, true, true, true, true, true, true] rfl rfl (by kernel_rfl) (fun _ _ _ h => h) (Or.inl ⟨by rfl, ?_⟩) ?_ ?_
     rotate_left
     ·intro w'
      go_simp
      with_reducible rfl
     rotate_left
     ·simp only [Act.put, List.setIfInBounds_toArray, List.set_cons_zero, List.set_cons_succ, i64_w, i32_w]
      rfl
     refine done_ (by kernel_rfl) ?_
     have ZG := Aside0.mk hHeld.2.2.2
     have RS11 := Aside0.mk rs11
     clear rs11 hHeld
     go_wp2
     refine bodyPost_ret (results_list (rs := [.cell 4 29, .tmp 5, .tmp 6]) rfl (by simp) (.cell rs 29 _ (0, 0) _ rfl RS11.out Tryd.underlying29 rfl (by kernel_rfl) (.tmp (.tmp .nil)))) rfl ?_
     rw [HRs.out]
     refine ⟨m' + 1, line, _, _, ?_, HKN.out, HLO.out, ZG.out.lb, ZG.out.bel⟩
     rw [HY.out]
     rfl
end Go.Proofs.YtamcacahjlaogaaDoor.LP
