/- rooted, walked: what the program makes of some items. Conditions: at most 1000000 items, a level from 0 to 1000. -/
import Derived.Test.YtnomidpnofhjdaaGreatDoorTr6
import Derived.Test.YtnomidpnofhjdaaGreatDoorQBasex2
import Derived.Test.YtnomidpnofhjdaaGreatDoorEr0
namespace Go.Proofs.YtnomidpnofhjdaaGreatDoor
open Go.RowKit Go.Proofs.YtnomidpnofhjdaaGreatDoorW.PrintWords Go.Proofs.YtnomidpnofhjdaaGreatDoorW.PrintLast Go.Proofs.YtnomidpnofhjdaaGreatDoorW.PrintMore
theorem info86 : (Tryz.prog.info? 86).map (fun i => (i.zero, i.size, i.bytes)) = some (some (.agg #[.int .i64 0, .int .i64 0, .int .i64 0, .int .i64 0]), 4, 32) := by kernel_rfl
abbrev It := QBase.S86
def pcOf (x : It) : Pc := ⟨x.f0.f0, x.f0.f1, x.f0.f2⟩
def scanL (level : Int) : List It → Nat → Int → Option Int
 | [], _, root => some root
 | x :: xs, i, root => if x.f1 < level ∨ (x.f1 = level ∧ 0 ≤ root) then none else scanL level xs (i + 1) (if x.f1 = level then (i : Int) else root)
def rootedV : Nat → List It → Int → Option Tree
 | 0, _, _ => none
 | n + 1, xs, level => if xs.length = 0 then some .nil else if 40 < level then none else
  match scanL level xs 0 (-1) with
  | none => none
  | some root => if root < 0 then none else
   match rootedV n (xs.take root.toNat) (level + 1), rootedV n (xs.drop (root.toNat + 1)) (level + 1) with
   | some l, some r => if TP.hgt l ≤ TP.hgt r + 1 ∧ TP.hgt r ≤ TP.hgt l + 1 then some (.node l (pcOf (QBase.rd_T86 xs root)) r) else none
   | _, _ => none
theorem scanL_le (level : Int) (xs : List It) : ∀ (i : Nat) (root : Int), -1 ≤ root → root < i → ∀ r, scanL level xs i root = some r → -1 ≤ r ∧ r < (i + xs.length : Nat) := by
 induction xs with
 | nil => intro i root h0 h1 r h; simp only [scanL, Option.some.injEq] at h; subst h; simp; omega
 | cons x xs ih =>
  intro i root h0 h1 r h
  simp only [scanL] at h
  split at h
  ·cases h
  ·have := ih (i + 1) _ (by split <;> omega) (by split <;> omega) r h
   simp only [List.length_cons]; omega
theorem rd_drop (xs : List It) (i : Nat) (h : i < xs.length) : xs.drop i = QBase.rd_T86 xs (i : Int) :: xs.drop (i + 1) := by
 rw [List.drop_eq_getElem_cons h]
 congr 1
 unfold QBase.rd_T86
 simp [List.getD, h]
theorem rootedV_cnt (n : Nat) : ∀ (xs : List It) (level : Int) (t : Tree), rootedV n xs level = some t → TP.cnt t ≤ xs.length := by
 induction n with
 | zero => intro xs level t h; cases h
 | succ n ih =>
  intro xs level t h
  simp only [rootedV] at h
  split at h
  ·cases h; simp [TP.cnt]
  ·split at h
   ·cases h
   ·cases hs : scanL level xs 0 (-1) with
    | none => rw [hs] at h; cases h
    | some root =>
     rw [hs] at h
     simp only at h
     split at h
     ·cases h
     ·rename_i hneg
      have hb := scanL_le level xs 0 (-1) (by omega) (by omega) root hs
      split at h
      ·rename_i l r hl hr
       split at h
       ·cases h
        have h1 := ih _ _ _ hl
        have h2 := ih _ _ _ hr
        simp only [List.length_take, List.length_drop] at h1 h2
        simp only [TP.cnt]; omega
       ·cases h
      ·cases h
def RootedPost (w : World) (o : Option Tree) (e : Ending) (w' : World) : Prop :=
 Below w.heap.size w w' ∧ match o with
  | some t => ∃ p S, e = .returned (.tuple #[ptrV p, .bool true]) ∧ Rep w' t p S ∧ S.Nodup ∧ ∀ k ∈ S, w.heap.size ≤ k
  | none => e = .returned (.tuple #[ptrV none, .bool false])
theorem RootedPost.both {w : World} {o : Option Tree} {e : Ending} {w' : World} (h : RootedPost w o e w') :
  ∃ p S b, e = .returned (.tuple #[ptrV p, .bool b]) ∧ Below w.heap.size w w' ∧ (b = true → ∃ t, o = some t ∧ Rep w' t p S ∧ S.Nodup ∧ ∀ k ∈ S, w.heap.size ≤ k) ∧ (b = false → o = none) := by
 obtain ⟨hb, h⟩ := h
 cases o with
 | none => exact ⟨none, [], false, h, hb, (fun e => by cases e), fun _ => rfl⟩
 | some t =>
  obtain ⟨p, S, e1, e2, e3, e4⟩ := h
  exact ⟨p, S, true, e1, hb, fun _ => ⟨t, rfl, e2, e3, e4⟩, fun e => by cases e⟩
structure ScanAt (w : World) (level : Int) (xs : List It) (R : Option Int) (k : Nat) (v6 v20 : Value) (wr : World) : Prop where
 st : ∃ (i : Nat) (root : Int), v6 = .int .i64 root ∧ v20 = .int .i64 i ∧ i + k = xs.length ∧ -1 ≤ root ∧ root < i ∧ scanL level (xs.drop i) i root = R
 bel : Below w.heap.size w wr
set_option maxHeartbeats 4000000 in
set_option maxRecDepth 100000 in
theorem rooted_any (n : Nat) : ∀ (xs : List It) (A : Option Addr) (c : Nat) (level : Int) (w : World), xs.length < n → xs.length ≤ 1000000 → Kd.C QBase.k86 w A xs.length xs → xs.length ≤ c → 0 ≤ level → level ≤ 1000 →
  Calls Tryz.prog 92 #[.slice A xs.length c, .int .i64 level] w (RootedPost w (rootedV n xs level)) := by
 induction n with
 | zero => intro xs A c level w h; omega
 | succ n ih =>
  intro xs A c level w hn hm hr hc h0 h1
  by_cases c0 : xs.length = 0
  ·obtain rfl : xs = [] := by simpa using c0
   simp only [List.length_nil]
   go_enter Tryz.func92, Tryz.ntmps92
   go_wp2
   go_ret2
   have e : rootedV (n + 1) [] level = some .nil := by simp [rootedV]
   rw [e]
   exact ⟨Below.refl _ _, none, [], rfl, ⟨rfl, rfl⟩, List.nodup_nil, by simp⟩
  have hz : ((xs.length : Int) == 0) = false := by simp only [beq_eq_false_iff_ne]; omega
  by_cases c1 : 40 < level
  ·go_enter Tryz.func92, Tryz.ntmps92
   go_wp2
   go_ret2
   have e : rootedV (n + 1) xs level = none := by simp only [rootedV]; rw [if_neg c0, if_pos c1]
   rw [e]
   exact ⟨Below.refl _ _, rfl⟩
  ·have cl : decide ((40 : Int) < level) = false := decide_eq_false c1
   have hlv : level ≤ 40 := by omega
   have HR := Aside0.mk hr
   have HN := Aside0.mk hn
   have HI := Aside0.mk ih
   have HM := Aside0.mk hm
   have HV : Aside0 (rootedV (n + 1) xs level = match scanL level xs 0 (-1) with
    | none => none
    | some root => if root < 0 then none else
     match rootedV n (xs.take root.toNat) (level + 1), rootedV n (xs.drop (root.toNat + 1)) (level + 1) with
     | some l, some r => if TP.hgt l ≤ TP.hgt r + 1 ∧ TP.hgt r ≤ TP.hgt l + 1 then some (.node l (pcOf (QBase.rd_T86 xs root)) r) else none
     | _, _ => none) := ⟨by simp only [rootedV]; rw [if_neg c0, if_neg c1]⟩
   have AT : Aside0 (ScanAt w level xs (scanL level xs 0 (-1)) xs.length (.int .i64 (-1)) (.int .i64 0) w) := ⟨⟨⟨0, -1, rfl, rfl, by omega, by omega, by omega, rfl⟩, Below.refl _ _⟩⟩
   have SL := Aside0.mk (scanL_le level xs 0 (-1) (by omega) (by omega))
   generalize rootedV (n + 1) xs level = V at HV
   generalize scanL level xs 0 (-1) = R at HV AT SL
   clear hr hn ih hm c1
   go_enter Tryz.func92, Tryz.ntmps92
   go_wp2
   go_loopg [6, 20] xs.length (fun k v6 v20 wr => ScanAt w level xs R k v6 v20 wr)
   case atStart => exact AT.out
   case round =>
    clear AT
    obtain ⟨⟨i, root, rfl, rfl, hk, hr0, hr1, hR⟩, hB⟩ := hrel
    have HB := Aside0.mk hB
    have HRR := Aside0.mk hR
    have HK := Aside0.mk hk
    have hi : i ≤ xs.length := by omega
    have hm := HM.out
    clear hB hR hk
    by_cases ci : i < xs.length
    ·have cib : decide ((i : Int) < (xs.length : Int)) = true := decide_eq_true (by omega)
     obtain ⟨ad, ea, hx0, hx1, hx2, hx3⟩ := QBase.at_T86 HR.out (i : Int) (by omega) (by omega)
     cases ea
     replace hx0 := (HB.out.cell (World.block_lt_of_cell? w _ hx0)).trans hx0
     replace hx1 := (HB.out.cell (World.block_lt_of_cell? w _ hx1)).trans hx1
     replace hx2 := (HB.out.cell (World.block_lt_of_cell? w _ hx2)).trans hx2
     replace hx3 := (HB.out.cell (World.block_lt_of_cell? w _ hx3)).trans hx3
     simp only [Int.toNat_natCast] at hx0 hx1 hx2 hx3
     have ED := Aside0.mk (rd_drop xs i ci)
     generalize QBase.rd_T86 xs (i : Int) = x at ED hx0 hx1 hx2 hx3
     by_cases d1 : x.f1 < level
     ·have d1b : decide (x.f1 < level) = true := decide_eq_true d1
      go_wp2_with ((with_reducible refine gate_dst (N := 8) rfl ?_); refine box_event ?hg (N := 8) ?hd (cs := #[.int .i64 0, .int .i64 0, .int .i64 0, .int .i64 0]) (t := 86) ?hr ?_; (case hd => rfl); (case hg => rfl); (case hr => first | (go_simp; done) | (go_simp; rfl)); intro gb hg w5 hbox hb; have HB5 := Aside0.mk (below_step HB.out hb); have GE := Aside0.mk (by rw [hg]; exact HB.out.size : w.heap.size ≤ gb); have hz0 : w5.cell? ⟨gb, 0, none⟩ = some (.int .i64 0) := (blk_cell hbox 0).trans rfl; have hz1 : w5.cell? ⟨gb, 1, none⟩ = some (.int .i64 0) := (blk_cell hbox 1).trans rfl; have hz2 : w5.cell? ⟨gb, 2, none⟩ = some (.int .i64 0) := (blk_cell hbox 2).trans rfl; have hz3 : w5.cell? ⟨gb, 3, none⟩ = some (.int .i64 0) := (blk_cell hbox 3).trans rfl; have hf0 := blk_frozen hbox 0; have hf1 := blk_frozen hbox 1; have hf2 := blk_frozen hbox 2; have hf3 := blk_frozen hbox 3; clear hb hbox hg)
      go_ret2
      have hv := HV.out
      have hrr := HRR.out
      rw [ED.out] at hrr
      simp only [scanL] at hrr
      rw [if_pos (.inl d1)] at hrr
      rw [← hrr] at hv
      rw [hv]
      exact ⟨(below_set (below_set (below_set (below_set HB5.out GE.out) GE.out) GE.out) GE.out), rfl⟩
     ·have d1b : decide (x.f1 < level) = false := decide_eq_false d1
      by_cases d2 : x.f1 = level
      ·have d2b : (x.f1 == level) = true := by simp [d2]
       have D2 := Aside0.mk d2
       clear d2
       by_cases d3 : 0 ≤ root
       ·have d3b : decide (0 ≤ root) = true := decide_eq_true d3
        go_wp2_with ((with_reducible refine gate_dst (N := 8) rfl ?_); refine box_event ?hg (N := 8) ?hd (cs := #[.int .i64 0, .int .i64 0, .int .i64 0, .int .i64 0]) (t := 86) ?hr ?_; (case hd => rfl); (case hg => rfl); (case hr => first | (go_simp; done) | (go_simp; rfl)); intro gb hg w5 hbox hb; have HB5 := Aside0.mk (below_step HB.out hb); have GE := Aside0.mk (by rw [hg]; exact HB.out.size : w.heap.size ≤ gb); have hz0 : w5.cell? ⟨gb, 0, none⟩ = some (.int .i64 0) := (blk_cell hbox 0).trans rfl; have hz1 : w5.cell? ⟨gb, 1, none⟩ = some (.int .i64 0) := (blk_cell hbox 1).trans rfl; have hz2 : w5.cell? ⟨gb, 2, none⟩ = some (.int .i64 0) := (blk_cell hbox 2).trans rfl; have hz3 : w5.cell? ⟨gb, 3, none⟩ = some (.int .i64 0) := (blk_cell hbox 3).trans rfl; have hf0 := blk_frozen hbox 0; have hf1 := blk_frozen hbox 1; have hf2 := blk_frozen hbox 2; have hf3 := blk_frozen hbox 3; clear hb hbox hg)
        go_ret2
        have hv := HV.out
        have hrr := HRR.out
        rw [ED.out] at hrr
        simp only [scanL] at hrr
        rw [if_pos (.inr ⟨D2.out, d3⟩)] at hrr
        rw [← hrr] at hv
        rw [hv]
        exact ⟨(below_set (below_set (below_set (below_set HB5.out GE.out) GE.out) GE.out) GE.out), rfl⟩
       ·have d3b : decide (0 ≤ root) = false := decide_eq_false d3
        go_wp2_with ((with_reducible refine gate_dst (N := 8) rfl ?_); refine box_event ?hg (N := 8) ?hd (cs := #[.int .i64 0, .int .i64 0, .int .i64 0, .int .i64 0]) (t := 86) ?hr ?_; (case hd => rfl); (case hg => rfl); (case hr => first | (go_simp; done) | (go_simp; rfl)); intro gb hg w5 hbox hb; have HB5 := Aside0.mk (below_step HB.out hb); have GE := Aside0.mk (by rw [hg]; exact HB.out.size : w.heap.size ≤ gb); have hz0 : w5.cell? ⟨gb, 0, none⟩ = some (.int .i64 0) := (blk_cell hbox 0).trans rfl; have hz1 : w5.cell? ⟨gb, 1, none⟩ = some (.int .i64 0) := (blk_cell hbox 1).trans rfl; have hz2 : w5.cell? ⟨gb, 2, none⟩ = some (.int .i64 0) := (blk_cell hbox 2).trans rfl; have hz3 : w5.cell? ⟨gb, 3, none⟩ = some (.int .i64 0) := (blk_cell hbox 3).trans rfl; have hf0 := blk_frozen hbox 0; have hf1 := blk_frozen hbox 1; have hf2 := blk_frozen hbox 2; have hf3 := blk_frozen hbox 3; clear hb hbox hg)
        go_roundg (xs.length - (i + 1))
        case measure => have := HK.out; omega
        case rel =>
         refine ⟨⟨i + 1, _, rfl, by go_num, by have := HK.out; omega, by omega, by omega, ?_⟩, (below_set (below_set (below_set (below_set HB5.out GE.out) GE.out) GE.out) GE.out)⟩
         have hrr := HRR.out
         rw [ED.out] at hrr
         simp only [scanL] at hrr
         rw [if_neg (by omega), if_pos D2.out] at hrr
         exact hrr
      ·have d2b : (x.f1 == level) = false := by simpa using d2
       go_wp2_with ((with_reducible refine gate_dst (N := 8) rfl ?_); refine box_event ?hg (N := 8) ?hd (cs := #[.int .i64 0, .int .i64 0, .int .i64 0, .int .i64 0]) (t := 86) ?hr ?_; (case hd => rfl); (case hg => rfl); (case hr => first | (go_simp; done) | (go_simp; rfl)); intro gb hg w5 hbox hb; have HB5 := Aside0.mk (below_step HB.out hb); have GE := Aside0.mk (by rw [hg]; exact HB.out.size : w.heap.size ≤ gb); have hz0 : w5.cell? ⟨gb, 0, none⟩ = some (.int .i64 0) := (blk_cell hbox 0).trans rfl; have hz1 : w5.cell? ⟨gb, 1, none⟩ = some (.int .i64 0) := (blk_cell hbox 1).trans rfl; have hz2 : w5.cell? ⟨gb, 2, none⟩ = some (.int .i64 0) := (blk_cell hbox 2).trans rfl; have hz3 : w5.cell? ⟨gb, 3, none⟩ = some (.int .i64 0) := (blk_cell hbox 3).trans rfl; have hf0 := blk_frozen hbox 0; have hf1 := blk_frozen hbox 1; have hf2 := blk_frozen hbox 2; have hf3 := blk_frozen hbox 3; clear hb hbox hg)
       go_roundg (xs.length - (i + 1))
       case measure => have := HK.out; omega
       case rel =>
        refine ⟨⟨i + 1, _, rfl, by go_num, by have := HK.out; omega, by omega, by omega, ?_⟩, (below_set (below_set (below_set (below_set HB5.out GE.out) GE.out) GE.out) GE.out)⟩
        have hrr := HRR.out
        rw [ED.out] at hrr
        simp only [scanL] at hrr
        rw [if_neg (by omega), if_neg d2] at hrr
        exact hrr
    ·have hil : i = xs.length := by have := HK.out; omega
     have cib : decide ((i : Int) < (xs.length : Int)) = false := decide_eq_false (by omega)
     have hrr := HRR.out
     rw [hil, List.drop_length] at hrr
     simp only [scanL] at hrr
     by_cases d4 : root < 0
     ·have d4b : decide (root < 0) = true := decide_eq_true d4
      have hv := HV.out
      rw [← hrr] at hv
      simp only at hv
      rw [if_pos d4] at hv
      have HVV := Aside0.mk hv
      clear hv hrr hil
      go_wp2
      go_ret2
      rw [HVV.out]
      exact ⟨HB.out, rfl⟩
     ·have d4b : decide (root < 0) = false := decide_eq_false d4
      have hlt := (SL.out root hrr.symm).2
      obtain ⟨ρ, rfl⟩ : ∃ ρ : Nat, root = ρ := ⟨root.toNat, by omega⟩
      have hv := HV.out
      rw [← hrr] at hv
      simp only at hv
      rw [if_neg d4] at hv
      simp only [Int.toNat_natCast] at hv
      have HVV := Aside0.mk hv
      have hρ : ρ < xs.length := by omega
      clear hv hrr d4 hlt
      have e1 : (xs.take ρ).length = ρ := by rw [List.length_take]; omega
      have e2 : (xs.drop (ρ + 1)).length = xs.length - (ρ + 1) := List.length_drop
      obtain ⟨i0, hi0, _, hsz, _⟩ := info_parts info86
      have hcut1 := cut_to (P := Tryz.prog) 29 86 .i64 Tryz.underlying29 hi0 A xs.length c (ρ : Int) (by omega) (by omega) hc
      have hcut2 := cut_from (P := Tryz.prog) 29 86 .i64 Tryz.underlying29 hi0 4 hsz A xs.length c ((ρ : Int) + 1) (by omega) (by omega)
      have t2 : ((ρ : Int) + 1).toNat = ρ + 1 := Int.toNat_natCast (ρ + 1)
      rw [t2] at hcut2
      simp only [Int.toNat_natCast] at hcut1
      have hC := Kd.C_below HR.out HB.out
      have hC1 := Kd.C_take (m := ρ) hC (by omega)
      have hC2 := Kd.C_drop (c := c) (m := ρ + 1) hC (by omega) hc
      have H1 := HI.out (xs.take ρ) A c (level + 1) wr (by have := HN.out; omega) (by have := HM.out; omega) hC1 (by omega) (by omega) (by omega)
      rw [e1] at H1
      obtain ⟨A2, hA2⟩ : ∃ y, (if c = ρ + 1 then A else A.map (·.add ((ρ + 1) * 4))) = y := ⟨_, rfl⟩
      rw [hA2] at hcut2
      have hC2' : Kd.C QBase.k86 wr A2 (xs.drop (ρ + 1)).length (xs.drop (ρ + 1)) := by rw [← hA2]; exact hC2
      have HH1 := Aside0.mk H1
      have HC2 := Aside0.mk hC2'
      have E2 := Aside0.mk e2
      have E1 := Aside0.mk e1
      have HILL := Aside0.mk hil
      clear H1 hC hC1 hC2 hC2' e1 e2 hA2 hil t2 hsz hi0
      go_wp2_with fail
      refine HH1.out.mono ?_
      intro e w2 hp
      obtain ⟨p1, S1, b1, rfl, hb2, ht1, hf1⟩ := hp.both
      have HB2 := Aside0.mk (below_step HB.out hb2)
      have HT1 := Aside0.mk ht1
      have HF1 := Aside0.mk hf1
      have Hb2 := Aside0.mk hb2
      have H2 := HI.out (xs.drop (ρ + 1)) A2 (c - (ρ + 1)) (level + 1) w2 (by have := HN.out; have := E2.out; omega) (by have := HM.out; have := E2.out; omega) (Kd.C_below HC2.out hb2) (by have := E2.out; omega) (by omega) (by omega)
      rw [E2.out] at H2
      have HH2 := Aside0.mk H2
      clear H2 ht1 hf1 hb2 hp
      go_wp2_with fail
      refine HH2.out.mono ?_
      intro e w3 hp
      obtain ⟨p2, S2, b2, rfl, hb3, ht2, hf2⟩ := hp.both
      have HB3 := Aside0.mk (below_step HB2.out hb3)
      have HT2 := Aside0.mk ht2
      have HF2 := Aside0.mk hf2
      have Hb3 := Aside0.mk hb3
      clear ht2 hf2 hb3 hp
      cases b1 with
      | false =>
       go_wp2
       go_ret2
       have hv := HVV.out
       rw [HF1.out (by simp)] at hv
       simp only at hv
       rw [hv]
       exact ⟨HB3.out, rfl⟩
      | true =>
       cases b2 with
       | false =>
        go_wp2
        go_ret2
        obtain ⟨t1, e1, _⟩ := HT1.out (by simp)
        have hv := HVV.out
        rw [e1, HF2.out (by simp)] at hv
        simp only at hv
        rw [hv]
        exact ⟨HB3.out, rfl⟩
       | true =>
        obtain ⟨t1, e1, hr1, nd1, hS1⟩ := HT1.out (by simp)
        obtain ⟨t2, e2, hr2, nd2, hS2⟩ := HT2.out (by simp)
        have k1 := rootedV_cnt _ _ _ _ e1
        have k2 := rootedV_cnt _ _ _ _ e2
        have g1 := TP.hgt_le t1
        have g2 := TP.hgt_le t2
        rw [E1.out] at k1
        rw [E2.out] at k2
        have hv := HVV.out
        rw [e1, e2] at hv
        simp only at hv
        have HVW := Aside0.mk hv
        have hr13 := hr1.below Hb3.out
        have HR1 := Aside0.mk hr13
        have HR2 := Aside0.mk hr2
        have ND := Aside0.mk (show (S1 ++ S2).Nodup from List.nodup_append.2 ⟨nd1, nd2, fun a ha b hb e => by have := hr1.lt a ha; have := hS2 b hb; omega⟩)
        have HS1 := Aside0.mk hS1
        have HS2 := Aside0.mk hS2
        clear e1 e2 hr1 hr2 hr13 nd1 nd2 hS1 hS2 hv HT1 HT2 HF1 HF2 HVV
        go_wp2_with fail
        refine (height_rep w3 t1 p1 S1 HR1.out (by omega)).mono ?_
        rintro e w' ⟨rfl, hw⟩
        rw [hw]
        clear hw w'
        go_wp2_with fail
        refine (height_rep w3 t2 p2 S2 HR2.out (by omega)).mono ?_
        rintro e w' ⟨rfl, hw⟩
        rw [hw]
        clear hw w'
        go_wp2_with fail
        by_cases bal : TP.hgt t1 ≤ TP.hgt t2 + 1 ∧ TP.hgt t2 ≤ TP.hgt t1 + 1
        ·refine (QBase.impl_within_int.calls ((TP.hgt t1 : Int) - (TP.hgt t2 : Int)) (-1) 1 true w3 (by unfold QBase.impl_within_int.f; rw [if_pos (by omega)]; simp; omega)).mono ?_
         rintro e w' ⟨rfl, ⟨nd, rfl⟩⟩
         have BAL := Aside0.mk bal
         clear bal
         obtain ⟨w4, e4⟩ : ∃ y, w3.drewN nd = y := ⟨_, rfl⟩
         have hb4 : Below w3.heap.size w3 w4 := by subst e4; exact pw_below_drewN (Below.refl _ _) _
         have HB4 := Aside0.mk (below_step HB3.out hb4)
         have Hb4 := Aside0.mk hb4
         rw [e4]
         clear e4 hb4
         obtain ⟨ad, ea, hx0, hx1, hx2, hx3⟩ := QBase.at_T86 HR.out (ρ : Int) (by omega) (by omega)
         cases ea
         simp only [Int.toNat_natCast] at hx0 hx1 hx2 hx3
         replace hx0 := (HB4.out.cell (World.block_lt_of_cell? w _ hx0)).trans hx0
         replace hx1 := (HB4.out.cell (World.block_lt_of_cell? w _ hx1)).trans hx1
         replace hx2 := (HB4.out.cell (World.block_lt_of_cell? w _ hx2)).trans hx2
         replace hx3 := (HB4.out.cell (World.block_lt_of_cell? w _ hx3)).trans hx3
         have HVX := HVW.out
         rw [if_pos BAL.out] at HVX
         have HVZ := Aside0.mk HVX
         generalize QBase.rd_T86 xs (ρ : Int) = x at HVZ hx0 hx1 hx2 hx3
         clear HVX HVW
         go_wp2_with fail
         refine (join3_any w4 p1 p2 t1 t2 (pcOf x) S1 S2 (HR1.out.below Hb4.out) (HR2.out.below Hb4.out) ND.out).mono ?_
         rintro e w5 ⟨m, rfl, hm1, hu, hrep⟩
         go_wp2
         go_ret2
         rw [HVZ.out]
         have hb5 := hu.below
         have ss := HB.out.size
         have s2 := HB2.out.size
         have s3 := HB3.out.size
         have s4 := HB4.out.size
         refine ⟨below_step HB4.out hb5, some m, m :: (S1 ++ S2), rfl, hrep, List.nodup_cons.2 ⟨fun h => ?_, ND.out⟩, fun k hk => ?_⟩
         ·rcases List.mem_append.1 h with h | h
          ·have := (HR1.out.below Hb4.out).lt m h; omega
          ·have := (HR2.out.below Hb4.out).lt m h; omega
         ·simp only [List.mem_cons, List.mem_append] at hk
          rcases hk with rfl | hk | hk
          ·omega
          ·have := HS1.out k hk; omega
          ·have := HS2.out k hk; omega
        ·refine (QBase.impl_within_int.calls ((TP.hgt t1 : Int) - (TP.hgt t2 : Int)) (-1) 1 false w3 (by unfold QBase.impl_within_int.f; split <;> simp; omega)).mono ?_
         rintro e w' ⟨rfl, ⟨nd, rfl⟩⟩
         have HVX := HVW.out
         rw [if_neg bal] at HVX
         clear bal
         go_wp2
         go_ret2
         rw [HVX]
         exact ⟨pw_below_drewN HB3.out _, rfl⟩
end Go.Proofs.YtnomidpnofhjdaaGreatDoor
