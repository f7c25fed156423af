/- The law FnExactPieceInsert tells true, plainly, at every input. No condition. -/
import Derived.Test.YtnomidpnofhjdaaGreatDoorQFnExactPieceInsertx11
namespace Go.Proofs.YtnomidpnofhjdaaGreatDoor.PureFnExactPieceInsert
open Go Go.RowKit Go.Proofs.YtnomidpnofhjdaaGreatDoor.QFnExactPieceInsert Go.Proofs.YtnomidpnofhjdaaGreatDoorW.PrintWords Go.Proofs.YtnomidpnofhjdaaGreatDoorW.PrintLast
theorem w64 {x : Int} (h : -9223372036854775808 ≤ x ∧ x ≤ 9223372036854775807) : wrap64 x = x := by unfold wrap64; omega
theorem ev_now {α : Type} {g : Nat → Option α} {r : α} (h : ∀ k, g (k + 1) = some r) : Ev g r :=
 ⟨1, fun k hk => by obtain ⟨m, rfl⟩ : ∃ m, k = m + 1 := ⟨k - 1, by omega⟩; exact h m⟩
theorem ev_const {α : Type} {g : Nat → Option α} {r : α} (h : ∀ k, g k = some r) : Ev g r := ⟨0, fun k _ => h k⟩
theorem rdI (xs : List S86) (i : Nat) (h : i < xs.length) : rd_T86 xs (i : Int) = xs[i] := by unfold rd_T86; simp [List.getD, h]
theorem rdL (xs : List S133) (i : Nat) (h : i < xs.length) : rd_T133 xs (i : Int) = xs[i] := by unfold rd_T133; simp [List.getD, h]
def tv (x : S133) : S86 := ⟨⟨x.f0.f0, x.f0.f1, x.f0.f2⟩, x.f1⟩
theorem toItemS_loop (xs : List S133) (hn : xs.length ≤ 1048576) (d : Nat) : ∀ i : Nat, i + d = xs.length →
  Ev (fun k => laws_toItemS.l0 k xs ((xs.take i).map tv ++ List.replicate d z86) (i : Int)) (xs.map tv) := by
 induction d with
 | zero =>
  intro i hi
  obtain rfl : i = xs.length := by omega
  refine ev_now fun k => ?_
  simp only [laws_toItemS.l0]
  rw [if_neg (by omega)]
  simp
 | succ d ih =>
  intro i hi
  have hlt : i < xs.length := by omega
  refine Ev.step (f := fun k => laws_toItemS.l0 k xs ((xs.take (i + 1)).map tv ++ List.replicate d z86) ((i + 1 : Nat) : Int)) (fun k => ?_) (ih (i + 1) (by omega))
  simp only [laws_toItemS.l0, laws_toItem.f, laws_toPiece.f, Option.bind_some]
  rw [if_pos (by omega), if_pos (by omega), if_pos (by simp; omega), w64 (by omega)]
  congr 1
  rw [rdL xs i hlt, Int.toNat_natCast, List.set_append_right _ _ (by simp; omega)]
  rw [show i - ((xs.take i).map tv).length = 0 by simp; omega, List.replicate_succ, List.set_cons_zero, List.take_succ_eq_append_getElem hlt, List.map_append, List.append_assoc]; rfl
theorem toTree_ev (xs : List S133) (hn : xs.length ≤ 1048576) : Ev (fun k => laws_toTree.f k xs) (xs.map tv) := by
 unfold laws_toTree.f
 refine Ev.bind (a := xs.map tv) ?_ (ev_const fun _ => rfl)
 unfold laws_toItemS.f
 refine Ev.congr (fun k => by rw [if_pos (by omega), if_pos (by omega)]) ?_
 have h := toItemS_loop xs hn xs.length 0 (by omega)
 simpa using h
theorem eqItem_is (x : S86) : laws_eqItem.f x.f0.f0 x.f0.f1 x.f0.f2 x.f1 x.f0.f0 x.f0.f1 x.f0.f2 x.f1 = some true := by
 unfold laws_eqItem.f laws_eqPiece.f
 simp
theorem eqItemS_loop (xs : List S86) (hn : xs.length ≤ 9000000) (d : Nat) : ∀ i : Nat, i + d = xs.length →
  Ev (fun k => laws_eqItemS.l0 k xs xs (i : Int)) true := by
 induction d with
 | zero => intro i hi; refine ev_now fun k => ?_; simp only [laws_eqItemS.l0]; rw [if_neg (by omega)]
 | succ d ih =>
  intro i hi
  refine Ev.step (f := fun k => laws_eqItemS.l0 k xs xs ((i + 1 : Nat) : Int)) (fun k => ?_) (ih (i + 1) (by omega))
  simp only [laws_eqItemS.l0]
  rw [if_pos (by omega), if_pos (by omega), if_pos (by omega), w64 (by omega), eqItem_is]; rfl
theorem eqTree_ev (xs : List S86) (hn : xs.length ≤ 9000000) : Ev (fun k => laws_eqTree.f k xs xs) true := by
 unfold laws_eqTree.f
 refine Ev.bind (a := true) ?_ (ev_const fun _ => if_pos rfl)
 unfold laws_eqItemS.f
 exact Ev.congr (fun k => if_pos rfl) (eqItemS_loop xs hn xs.length 0 (by omega))
/-! the specification's validity is the program's -/
theorem cv_rd (xs : List S86) (i : Nat) : QBase.rd_T86 (xs.map cv) (i : Int) = cv (rd_T86 xs (i : Int)) := by
 unfold QBase.rd_T86 rd_T86
 simp only [Int.toNat_natCast, List.getD, List.getElem?_map]
 cases xs[i]? <;> rfl
theorem pieceOk_is (x : S86) : spec_l2PieceOk.f x.f0.f0 x.f0.f1 x.f0.f2 = some (decide (goodP (cv x))) := by
 have no : ¬ goodP (cv x) → some false = some (decide (goodP (cv x))) := fun h => congrArg some (decide_eq_false h).symm
 unfold spec_l2PieceOk.f
 by_cases c1 : x.f0.f1 < 1
 ·rw [if_pos c1]; exact no (fun h => by unfold goodP cv at h; simp only at h; omega)
 rw [if_neg c1]
 by_cases c2 : x.f0.f1 > 8192
 ·rw [if_pos c2]; exact no (fun h => by unfold goodP cv at h; simp only at h; omega)
 rw [if_neg c2]
 by_cases c3 : x.f0.f0 < 0
 ·rw [if_pos c3]; exact no (fun h => by unfold goodP cv at h; simp only at h; omega)
 rw [if_neg c3]
 by_cases c4 : x.f0.f0 > 220000
 ·rw [if_pos c4]; exact no (fun h => by unfold goodP cv at h; simp only at h; omega)
 rw [if_neg c4, w64 (by omega)]
 by_cases c5 : x.f0.f0 + x.f0.f1 ≤ 220000
 ·rw [if_pos c5]
  by_cases c6 : x.f0.f2 ≥ 0
  ·rw [if_pos c6]; exact congrArg some (decide_eq_decide.2 (by unfold goodP cv; simp only; omega))
  ·rw [if_neg c6]; exact no (fun h => by unfold goodP cv at h; simp only at h; omega)
 ·rw [if_neg c5]; exact no (fun h => by unfold goodP cv at h; simp only at h; omega)
theorem total_loop (xs : List S86) (hn : xs.length ≤ 8192) (hg : AllGood (xs.map cv)) (d : Nat) : ∀ i : Nat, i + d = xs.length →
  Ev (fun k => spec_l2Total.l0 k (sumL ((xs.take i).map cv)) xs (xs.length : Int) (i : Int)) (sumL (xs.map cv)) := by
 induction d with
 | zero =>
  intro i hi
  obtain rfl : i = xs.length := by omega
  refine ev_now fun k => ?_
  simp only [spec_l2Total.l0]
  rw [if_neg (by omega), List.take_length]
 | succ d ih =>
  intro i hi
  have hlt : i < xs.length := by omega
  have hb := sumL_bound ((xs.take i).map cv) (fun y hy => hg y (by
   obtain ⟨z, hz, rfl⟩ := List.mem_map.1 hy
   exact List.mem_map.2 ⟨z, List.mem_of_mem_take hz, rfl⟩))
  have hx := hg (cv xs[i]) (List.mem_map.2 ⟨xs[i], List.getElem_mem hlt, rfl⟩)
  unfold goodP at hx
  simp only [List.length_map, List.length_take] at hb
  have e : sumL ((xs.take (i + 1)).map cv) = sumL ((xs.take i).map cv) + xs[i].f0.f1 := by
   rw [List.take_succ_eq_append_getElem hlt, List.map_append, sumL_app]; simp [sumL, cv]
  refine Ev.step (f := fun k => spec_l2Total.l0 k (sumL ((xs.take (i + 1)).map cv)) xs (xs.length : Int) ((i + 1 : Nat) : Int)) (fun k => ?_) (ih (i + 1) (by omega))
  simp only [spec_l2Total.l0]
  simp only [cv] at hx
  rw [if_pos (by omega), if_pos (by omega), if_pos (by omega), rdI xs i hlt, w64 (by omega), w64 (by omega), e]; rfl
theorem total_ev (xs : List S86) (hn : xs.length ≤ 8192) (hg : AllGood (xs.map cv)) : Ev (fun k => spec_l2Total.f k xs) (sumL (xs.map cv)) := by
 unfold spec_l2Total.f
 exact total_loop xs hn hg xs.length 0 (by omega)
def shapeV (n : Nat) (ys : List It) (level : Int) : Int := match rootedV n ys level with | some t => (TP.hgt t : Int) | none => -1
theorem seg_cons (xs : List S86) (lo hi : Nat) (h : lo < hi) (hh : hi ≤ xs.length) : ((xs.map cv).take hi).drop lo = cv (rd_T86 xs (lo : Int)) :: ((xs.map cv).take hi).drop (lo + 1) := by
 rw [rd_drop _ lo (by rw [List.length_take, List.length_map]; omega)]
 congr 1
 rw [← cv_rd]
 unfold QBase.rd_T86
 simp only [Int.toNat_natCast, List.getD, List.getElem?_take]
 rw [if_pos h]
theorem shapeV_le (n : Nat) (ys : List It) (level : Int) : -1 ≤ shapeV n ys level ∧ shapeV n ys level ≤ ys.length := by
 unfold shapeV
 cases h : rootedV n ys level with
 | none => simp only; omega
 | some t =>
  have := rootedV_cnt _ _ _ _ h
  have := TP.hgt_le t
  simp only; omega
def shR (xs : List S86) (n lo hi : Nat) (level : Int) : Option Int → Int
 | none => -1
 | some root => if root < 0 then -1 else
     if shapeV n (((xs.map cv).take (lo + root.toNat)).drop lo) (level + 1) < 0 then -1 else if shapeV n (((xs.map cv).take hi).drop (lo + root.toNat + 1)) (level + 1) < 0 then -1
     else if shapeV n (((xs.map cv).take (lo + root.toNat)).drop lo) (level + 1) ≤ shapeV n (((xs.map cv).take hi).drop (lo + root.toNat + 1)) (level + 1) + 1 ∧ shapeV n (((xs.map cv).take hi).drop (lo + root.toNat + 1)) (level + 1) ≤ shapeV n (((xs.map cv).take (lo + root.toNat)).drop lo) (level + 1) + 1
      then (if shapeV n (((xs.map cv).take hi).drop (lo + root.toNat + 1)) (level + 1) > shapeV n (((xs.map cv).take (lo + root.toNat)).drop lo) (level + 1) then shapeV n (((xs.map cv).take hi).drop (lo + root.toNat + 1)) (level + 1) + 1 else shapeV n (((xs.map cv).take (lo + root.toNat)).drop lo) (level + 1) + 1) else -1
theorem shape_ev (xs : List S86) (hx : xs.length ≤ 8192) (n : Nat) : ∀ (lo hi : Nat) (level : Int), lo ≤ hi → hi ≤ xs.length → hi - lo < n → 0 ≤ level → level ≤ 1000 →
  Ev (fun k => spec_l2Shape.f k xs (lo : Int) (hi : Int) level) (shapeV n (((xs.map cv).take hi).drop lo) level) := by
 induction n with
 | zero => intro lo hi level h1 h2 h3; omega
 | succ n ih =>
  intro lo hi level h1 h2 h3 l0 l1
  have hlen : ((((xs.map cv).take hi).drop lo)).length = hi - lo := by rw [List.length_drop, List.length_take, List.length_map]; omega
  by_cases c0 : hi ≤ lo
  ·refine ev_now fun k => ?_
   simp only [spec_l2Shape.f]
   rw [if_pos (by omega)]
   unfold shapeV
   have e : rootedV (n + 1) (((xs.map cv).take hi).drop lo) level = some .nil := by simp only [rootedV]; rw [if_pos (by omega)]
   rw [e]; rfl
  by_cases c1 : 40 < level
  ·refine ev_now fun k => ?_
   simp only [spec_l2Shape.f]
   rw [if_neg (by omega), if_pos c1]
   unfold shapeV
   have e : rootedV (n + 1) (((xs.map cv).take hi).drop lo) level = none := by simp only [rootedV]; rw [if_neg (by omega), if_pos c1]
   rw [e]
  refine Ev.step (fun k => by simp only [spec_l2Shape.f]; rw [if_neg (by omega), if_neg c1]) ?_
  have hV : shapeV (n + 1) (((xs.map cv).take hi).drop lo) level = shR xs n lo hi level (scanL level (((xs.map cv).take hi).drop lo) 0 (-1)) := by
   have e0 : ∀ o, rootedV (n + 1) (((xs.map cv).take hi).drop lo) level = o → shapeV (n + 1) (((xs.map cv).take hi).drop lo) level = match o with | some t => (TP.hgt t : Int) | none => -1 := by
    intro o h; unfold shapeV; rw [h]
   rw [e0 _ (by simp only [rootedV]; rw [if_neg (by omega), if_neg c1])]
   cases hs : scanL level (((xs.map cv).take hi).drop lo) 0 (-1) with
   | none => rfl
   | some root =>
    simp only [shR]
    by_cases hr : root < 0
    ·rw [if_pos hr, if_pos hr]
    ·rw [if_neg hr, if_neg hr]
     have hle := (scanL_le level _ 0 (-1) (by omega) (by omega) root hs).2
     rw [hlen] at hle
     have e1 : (((xs.map cv).take hi).drop lo).take root.toNat = ((xs.map cv).take (lo + root.toNat)).drop lo := by
      rw [List.take_drop, List.take_take]; congr 2; omega
     have e2 : (((xs.map cv).take hi).drop lo).drop (root.toNat + 1) = ((xs.map cv).take hi).drop (lo + root.toNat + 1) := by
      rw [List.drop_drop]; congr 1
     rw [e1, e2]
     unfold shapeV
     cases hl : rootedV n (((xs.map cv).take (lo + root.toNat)).drop lo) (level + 1) with
     | none => simp
     | some l =>
      cases hr2 : rootedV n (((xs.map cv).take hi).drop (lo + root.toNat + 1)) (level + 1) with
      | none => simp
      | some r =>
       simp only
       have k1 : ¬ ((TP.hgt l : Int) < 0) := by omega
       have k2 : ¬ ((TP.hgt r : Int) < 0) := by omega
       rw [if_neg k1, if_neg k2]
       by_cases hb : TP.hgt l ≤ TP.hgt r + 1 ∧ TP.hgt r ≤ TP.hgt l + 1
       ·have hb' : (TP.hgt l : Int) ≤ TP.hgt r + 1 ∧ (TP.hgt r : Int) ≤ TP.hgt l + 1 := by omega
        rw [if_pos hb, if_pos hb']
        simp only [TP.hgt]
        split <;> omega
       ·have hb' : ¬ ((TP.hgt l : Int) ≤ TP.hgt r + 1 ∧ (TP.hgt r : Int) ≤ TP.hgt l + 1) := by omega
        rw [if_neg hb, if_neg hb']
  rw [hV]
  generalize hR : scanL level (((xs.map cv).take hi).drop lo) 0 (-1) = R
  have hbound : ∀ root, R = some root → root < ((hi - lo : Nat) : Int) ∧ -1 ≤ root := by
   intro root h
   rw [h] at hR
   have := scanL_le level _ 0 (-1) (by omega) (by omega) root hR
   rw [hlen] at this; omega
  have main : ∀ (d i : Nat) (rel : Int), i + d = hi → lo ≤ i → -1 ≤ rel → rel < ((i - lo : Nat) : Int) → scanL level (((xs.map cv).take hi).drop i) (i - lo) rel = R →
    Ev (fun k => spec_l2Shape.l0 k xs (lo : Int) (hi : Int) level (if rel < 0 then -1 else (lo : Int) + rel) (i : Int)) (shR xs n lo hi level R) := by
   intro d
   induction d with
   | zero =>
    intro i rel hi' hlo hr0 hr1 hsc
    obtain rfl : i = hi := by omega
    have e : ((xs.map cv).take i).drop i = [] := List.drop_eq_nil_of_le (by rw [List.length_take]; omega)
    rw [e] at hsc
    simp only [scanL] at hsc
    subst hsc
    simp only [shR]
    by_cases hneg : rel < 0
    ·rw [if_pos hneg, if_pos hneg]
     refine ev_now fun k => ?_
     simp only [spec_l2Shape.l0]
     rw [if_neg (by omega), if_pos (by omega)]
    ·rw [if_neg hneg]
     obtain ⟨ρ, rfl⟩ : ∃ ρ : Nat, rel = ρ := ⟨rel.toNat, by omega⟩
     simp only [Int.toNat_natCast]
     refine Ev.step (fun k => by simp only [spec_l2Shape.l0]; rw [if_neg (by omega), if_neg (by omega)]) ?_
     have hl := ih lo (lo + ρ) (level + 1) (by omega) (by omega) (by omega) (by omega) (by omega)
     have hr := ih (lo + ρ + 1) i (level + 1) (by omega) (by omega) (by omega) (by omega) (by omega)
     have bl := shapeV_le n (((xs.map cv).take (lo + ρ)).drop lo) (level + 1)
     have br := shapeV_le n (((xs.map cv).take i).drop (lo + ρ + 1)) (level + 1)
     simp only [List.length_drop, List.length_take, List.length_map] at bl br
     generalize shapeV n (((xs.map cv).take (lo + ρ)).drop lo) (level + 1) = a at hl bl
     generalize shapeV n (((xs.map cv).take i).drop (lo + ρ + 1)) (level + 1) = b at hr br
     refine Ev.congr (f := fun k => (spec_l2Shape.f k xs (lo : Int) ((lo + ρ : Nat) : Int) (level + 1)).bind fun t108 => (if t108 < 0 then (some (-1)) else ((spec_l2Shape.f k xs ((lo + ρ + 1 : Nat) : Int) (i : Int) (level + 1)).bind fun t109 => (if t109 < 0 then (spec_l2Shape.j1 k t108 t109 true) else (if (wrap64 (t108 - t109)) > 1 then (spec_l2Shape.j1 k t108 t109 true) else (spec_l2Shape.j1 k t108 t109 (decide ((wrap64 (t109 - t108)) > 1)))))))) (fun k => by
      rw [w64 (x := level + 1) (by omega), w64 (x := (lo : Int) + (ρ : Int) + 1) (by omega)]; rfl) ?_
     refine Ev.bind hl ?_
     by_cases ca : a < 0
     ·rw [if_pos ca]; exact ev_const fun k => if_pos ca
     ·rw [if_neg ca]
      refine Ev.congr (fun k => if_neg ca) ?_
      refine Ev.bind hr ?_
      have J : ∀ t, Ev (fun k => spec_l2Shape.j1 k a b t) (if t = true then -1 else if b > a then b + 1 else a + 1) := by
       intro t
       refine ev_now fun k => ?_
       simp only [spec_l2Shape.j1]
       rw [w64 (by omega), w64 (by omega)]
       split
       ·rfl
       ·split <;> rfl
      by_cases cb : b < 0
      ·rw [if_pos cb]
       have := J true
       rw [if_pos rfl] at this
       exact Ev.congr (fun k => if_pos cb) this
      ·rw [if_neg cb]
       refine Ev.congr (fun k => if_neg cb) ?_
       by_cases cd : a - b > 1
       ·have nb : ¬ (a ≤ b + 1 ∧ b ≤ a + 1) := by omega
        rw [if_neg nb]
        have := J true
        rw [if_pos rfl] at this
        exact Ev.congr (fun k => if_pos (by rw [w64 (by omega)]; exact cd)) this
       ·refine Ev.congr (fun k => by rw [if_neg (by rw [w64 (by omega)]; exact cd), w64 (x := b - a) (by omega)]) ?_
        by_cases ce : b - a > 1
        ·have nb : ¬ (a ≤ b + 1 ∧ b ≤ a + 1) := by omega
         rw [if_neg nb]
         have := J (decide (b - a > 1))
         rw [if_pos (decide_eq_true ce)] at this
         exact this
        ·have nb : a ≤ b + 1 ∧ b ≤ a + 1 := by omega
         rw [if_pos nb]
         have := J (decide (b - a > 1))
         rw [if_neg (by rw [decide_eq_false ce]; simp)] at this
         exact this
   | succ d ihd =>
    intro i rel hi' hlo hr0 hr1 hsc
    have hlt : i < hi := by omega
    rw [seg_cons xs i hi hlt h2] at hsc
    simp only [scanL] at hsc
    have hx1 : (cv (rd_T86 xs (i : Int))).f1 = (rd_T86 xs (i : Int)).f1 := rfl
    rw [hx1] at hsc
    generalize hy : (rd_T86 xs (i : Int)).f1 = y at hsc
    by_cases d1 : y < level
    ·rw [if_pos (.inl d1)] at hsc
     subst hsc
     simp only [shR]
     refine ev_now fun k => ?_
     simp only [spec_l2Shape.l0, hy]
     rw [if_pos (by omega), if_pos (by omega), if_pos (by omega), if_pos d1]
    ·by_cases d2 : y = level
     ·by_cases d3 : 0 ≤ rel
      ·rw [if_pos (.inr ⟨d2, d3⟩)] at hsc
       subst hsc
       simp only [shR]
       refine ev_now fun k => ?_
       simp only [spec_l2Shape.l0, hy]
       rw [if_pos (by omega), if_pos (by omega), if_pos (by omega), if_neg d1, if_pos d2, if_pos (by rw [if_neg (by omega)]; omega)]
      ·rw [if_neg (by omega), if_pos d2] at hsc
       have h := ihd (i + 1) (((i - lo : Nat) : Int)) (by omega) (by omega) (by omega) (by omega) (by rw [← hsc]; congr 1; omega)
       refine Ev.step (fun k => ?_) h
       simp only [spec_l2Shape.l0, hy]
       rw [if_pos (by omega), if_pos (by omega), if_pos (by omega), if_neg d1, if_pos d2, if_neg (by rw [if_pos (by omega)]; omega), w64 (by omega), if_neg (by omega)]
       congr 1
       omega
     ·rw [if_neg (by omega), if_neg d2] at hsc
      have h := ihd (i + 1) rel (by omega) (by omega) (by omega) (by omega) (by rw [← hsc]; congr 1; omega)
      refine Ev.step (fun k => ?_) h
      simp only [spec_l2Shape.l0, hy]
      rw [if_pos (by omega), if_pos (by omega), if_pos (by omega), if_neg d1, if_neg d2, w64 (by omega)]
      rfl
  have := main (hi - lo) lo (-1) (by omega) (by omega) (by omega) (by omega) (by rw [Nat.sub_self]; exact hR)
  rw [if_pos (by omega)] at this
  exact this
theorem valid_loop (xs : List S86) (hn : xs.length ≤ 8192) (d : Nat) : ∀ i : Nat, i + d = xs.length → AllGood ((xs.take i).map cv) →
  Ev (fun k => spec_L2Valid.l0 k xs (xs.length : Int) (i : Int) xs) (decide ((grownV (xs.map cv)).isSome = true)) := by
 induction d with
 | zero =>
  intro i hi hg
  obtain rfl : i = xs.length := by omega
  rw [List.take_length] at hg
  refine Ev.step (fun k => by simp only [spec_L2Valid.l0]; rw [if_neg (by omega)]) ?_
  refine Ev.bind (total_ev xs hn hg) ?_
  unfold grownV
  rw [List.length_map]
  by_cases cs : sumL (xs.map cv) ≤ 8192
  ·rw [if_pos ⟨hn, hg, cs⟩]
   refine Ev.congr (fun k => if_pos cs) ?_
   have hsh := shape_ev xs hn (xs.length + 1) 0 xs.length 0 (by omega) (by omega) (by omega) (by omega) (by omega)
   rw [List.drop_zero, List.take_of_length_le (by rw [List.length_map]; omega)] at hsh
   refine Ev.bind hsh ?_
   refine ev_const fun _ => ?_
   unfold shapeV
   cases rootedV (xs.length + 1) (xs.map cv) 0 with
   | none => rfl
   | some t => simp
  ·rw [if_neg (fun h => cs h.2.2)]
   exact ev_const fun k => by rw [if_neg cs]; rfl
 | succ d ih =>
  intro i hi hg
  have hlt : i < xs.length := by omega
  refine Ev.step (fun k => by simp only [spec_L2Valid.l0]; rw [if_pos (by omega), if_pos (by omega), if_pos (by omega), pieceOk_is, Option.bind_some, w64 (by omega)]) ?_
  have ex : rd_T86 xs (i : Int) = xs[i] := rdI xs i hlt
  rw [ex]
  by_cases gd : goodP (cv xs[i])
  ·refine Ev.congr (fun k => if_pos (decide_eq_true gd)) ?_
   exact ih (i + 1) (by omega) (fun y hy => by
    rw [List.take_succ_eq_append_getElem hlt, List.map_append] at hy
    rcases List.mem_append.1 hy with hy | hy
    ·exact hg y hy
    ·simp only [List.map_cons, List.map_nil, List.mem_singleton] at hy
     rw [hy]; exact gd)
  ·refine ev_const fun k => ?_
   rw [if_neg (by rw [decide_eq_false gd]; simp)]
   unfold grownV
   rw [if_neg (fun h => gd (h.2.1 (cv xs[i]) (List.mem_map.2 ⟨xs[i], List.getElem_mem hlt, rfl⟩)))]
   rfl
theorem valid_ev (xs : List S86) : Ev (fun k => spec_L2Valid.f k xs) (decide ((grownV (xs.map cv)).isSome = true)) := by
 unfold spec_L2Valid.f
 by_cases c : (xs.length : Int) > 8192
 ·refine ev_const fun k => ?_
  rw [if_pos c]
  unfold grownV
  rw [if_neg (fun h => by have := h.1; rw [List.length_map] at this; omega)]
  rfl
 ·refine Ev.congr (fun k => if_neg c) ?_
  exact valid_loop xs (by omega) xs.length 0 (by omega) (fun y hy => by simp at hy)
/-! lists of runes of the laws -/
theorem toI_loop (xs : List Int) (hn : xs.length ≤ 1048576) (d : Nat) : ∀ i : Nat, i + d = xs.length →
  Ev (fun k => laws_toInt32S.l0 k xs (xs.take i ++ List.replicate d 0) (i : Int)) xs := by
 induction d with
 | zero =>
  intro i hi
  obtain rfl : i = xs.length := by omega
  refine ev_now fun k => ?_
  simp only [laws_toInt32S.l0]
  rw [if_neg (by omega)]
  simp
 | succ d ih =>
  intro i hi
  have hlt : i < xs.length := by omega
  refine Ev.step (f := fun k => laws_toInt32S.l0 k xs (xs.take (i + 1) ++ List.replicate d 0) ((i + 1 : Nat) : Int)) (fun k => ?_) (ih (i + 1) (by omega))
  simp only [laws_toInt32S.l0]
  have e : rd xs (i : Int) = xs[i] := by unfold rd; simp [List.getD, hlt]
  rw [if_pos (by omega), if_pos (by omega), if_pos (by simp; omega), w64 (by omega), e, Int.toNat_natCast, List.set_append_right _ _ (by simp; omega)]
  congr 1
  rw [show i - (xs.take i).length = 0 by simp; omega, List.replicate_succ, List.set_cons_zero, List.take_succ_eq_append_getElem hlt, List.append_assoc]; rfl
theorem toI_ev (xs : List Int) (hn : xs.length ≤ 1048576) : Ev (fun k => laws_toInt32S.f k xs) xs := by
 unfold laws_toInt32S.f
 refine Ev.congr (fun k => by rw [if_pos (by omega), if_pos (by omega)]) ?_
 have h := toI_loop xs hn xs.length 0 (by omega)
 simpa using h
theorem eqI_loop (xs : List Int) (hn : xs.length ≤ 9000000) (d : Nat) : ∀ i : Nat, i + d = xs.length →
  Ev (fun k => laws_eqInt32S.l0 k xs xs (i : Int)) true := by
 induction d with
 | zero => intro i hi; refine ev_now fun k => ?_; simp only [laws_eqInt32S.l0]; rw [if_neg (by omega)]
 | succ d ih =>
  intro i hi
  refine Ev.step (f := fun k => laws_eqInt32S.l0 k xs xs ((i + 1 : Nat) : Int)) (fun k => ?_) (ih (i + 1) (by omega))
  simp only [laws_eqInt32S.l0]
  rw [if_pos (by omega), if_pos (by omega), if_pos (by omega), if_pos (by first | rfl | trivial), w64 (by omega)]; rfl
theorem eqI_ev (xs : List Int) (hn : xs.length ≤ 9000000) : Ev (fun k => laws_eqInt32S.f k xs xs) true := by
 unfold laws_eqInt32S.f
 exact Ev.congr (fun k => if_pos rfl) (eqI_loop xs hn xs.length 0 (by omega))
theorem toPB_ev (T : List Int) (xs : List S133) (h1 : T.length ≤ 1048576) (h2 : xs.length ≤ 1048576) : Ev (fun k => laws_toPieceBuf.f k T xs) (T, xs.map tv) := by
 unfold laws_toPieceBuf.f
 exact Ev.bind (toI_ev T h1) (Ev.bind (toTree_ev xs h2) (ev_const fun _ => rfl))
theorem eqPB_ev (T : List Int) (xs : List S86) (h1 : T.length ≤ 9000000) (h2 : xs.length ≤ 9000000) : Ev (fun k => laws_eqPieceBuf.f k T xs T xs) true := by
 unfold laws_eqPieceBuf.f
 refine Ev.bind (eqI_ev T h1) ?_
 refine Ev.congr (fun k => if_pos rfl) ?_
 refine Ev.bind (eqTree_ev xs h2) ?_
 exact ev_const fun k => if_pos rfl
theorem szPB_is (T : List Int) (xs : List S133) (hT : T.length ≤ 9223372036854775807) (hm : xs.length ≤ 9223372036854775807) : ∃ v, laws_szPieceBuf.f T xs 1048576 = some v ∧ (0 ≤ v → T.length ≤ 1048576 ∧ xs.length ≤ 1048576) := by
 unfold laws_szPieceBuf.f laws_szInt32S.f
 rw [w64 (by omega)]
 by_cases c : (1048576 : Int) - (T.length : Int) < 0
 ·rw [if_pos c]
  exact ⟨-1, by simp only [Option.bind_some]; rw [if_pos (by omega)], fun h => by omega⟩
 ·rw [if_neg c]
  simp only [Option.bind_some]
  rw [if_neg c]
  unfold laws_szTree.f laws_szItemS.f
  rw [w64 (by omega)]
  by_cases c2 : (1048576 : Int) - (T.length : Int) - (xs.length : Int) < 0
  ·rw [if_pos c2]
   exact ⟨-1, by simp only [Option.bind_some]; rw [if_pos (by omega)]; simp only [Option.bind_some]; rw [if_pos (by omega)], fun h => by omega⟩
  ·rw [if_neg c2]
   exact ⟨_, by simp only [Option.bind_some]; rw [if_neg c2]; simp only [Option.bind_some]; rw [if_neg c2], fun h => by omega⟩
/-! the specification's words -/
theorem nl_ev_loop (L : List Int) (hn : L.length ≤ 2000000) (d : Nat) : ∀ i : Nat, i + d = L.length → Ev (fun k => spec_l1Breaks.l0 k (nl (L.take i)) L (L.length : Int) (i : Int)) (nl L) := by
 induction d with
 | zero =>
  intro i hi
  obtain rfl : i = L.length := by omega
  refine ev_now fun k => ?_
  simp only [spec_l1Breaks.l0]
  rw [if_neg (by omega), List.take_length]
 | succ d ih =>
  intro i hi
  have hlt : i < L.length := by omega
  have hb := nl_le (L.take i)
  have hl : (L.take i).length ≤ 2000000 := by rw [List.length_take]; omega
  have e : rd L (i : Int) = L[i] := by unfold rd; simp [List.getD, hlt]
  have e2 : nl (L.take (i + 1)) = nl (L.take i) + (if L[i] = 10 then 1 else 0) := by
   rw [List.take_succ_eq_append_getElem hlt, nl_app]; simp [nl]
  refine Ev.step (f := fun k => spec_l1Breaks.l0 k (nl (L.take (i + 1))) L (L.length : Int) ((i + 1 : Nat) : Int)) (fun k => ?_) (ih (i + 1) (by omega))
  simp only [spec_l1Breaks.l0]
  rw [if_pos (by omega), if_pos (by omega), if_pos (by omega), e, w64 (x := (i : Int) + 1) (by omega), w64 (x := nl (L.take i) + 1) (by omega), e2]
  by_cases c : L[i] = 10
  ·rw [if_pos c, if_pos c]; rfl
  ·rw [if_neg c, if_neg c, Int.add_zero]; rfl
theorem nl_ev (L : List Int) (hn : L.length ≤ 2000000) : Ev (fun k => spec_l1Breaks.f k L) (nl L) := by
 unfold spec_l1Breaks.f
 exact nl_ev_loop L hn L.length 0 (Nat.zero_add _)
theorem pvalid_loop (T : List Int) (xs : List S86) (hT : T.length ≤ 220000) (hn : xs.length ≤ 8192) (hg : AllGood (xs.map cv)) (d : Nat) : ∀ i : Nat, i + d = xs.length →
  Ev (fun k => spec_L4PieceValid.l0 k xs (xs.length : Int) (i : Int) T xs) (decide (OkPcs T ((xs.drop i).map cv))) := by
 induction d with
 | zero =>
  intro i hi
  obtain rfl : i = xs.length := by omega
  refine ev_now fun k => ?_
  simp only [spec_L4PieceValid.l0]
  rw [if_neg (by omega), List.drop_length]
  simp [OkPcs]
 | succ d ih =>
  intro i hi
  have hlt : i < xs.length := by omega
  have g := hg (cv xs[i]) (List.mem_map.2 ⟨xs[i], List.getElem_mem hlt, rfl⟩)
  unfold goodP at g
  simp only [cv] at g
  have hd : (xs.drop i).map cv = cv xs[i] :: (xs.drop (i + 1)).map cv := by rw [List.drop_eq_getElem_cons hlt, List.map_cons]
  have hok : OkPcs T ((xs.drop i).map cv) ↔ okPc T (cv xs[i]) ∧ OkPcs T ((xs.drop (i + 1)).map cv) := by
   rw [hd]; unfold OkPcs
   constructor
   ·intro h; exact ⟨h _ List.mem_cons_self, fun y hy => h y (List.mem_cons_of_mem _ hy)⟩
   ·rintro ⟨h1, h2⟩ y hy
    rcases List.mem_cons.1 hy with rfl | hy
    ·exact h1
    ·exact h2 y hy
  have no : ¬ okPc T (cv xs[i]) → some false = some (decide (OkPcs T ((xs.drop i).map cv))) := fun h => congrArg some (decide_eq_false (fun q => h (hok.1 q).1)).symm
  refine Ev.step (fun k => by
   simp only [spec_L4PieceValid.l0]
   rw [if_pos (by omega), if_pos (by omega), if_pos (by omega), rdI xs i hlt, w64 (x := xs[i].f0.f0 + xs[i].f0.f1) (by omega), w64 (x := (i : Int) + 1) (by omega)]) ?_
  by_cases c1 : xs[i].f0.f0 + xs[i].f0.f1 > (T.length : Int)
  ·exact ev_const fun k => by rw [if_pos c1]; exact no (fun h => by have := h.1; simp only [cv] at this; omega)
  ·refine Ev.congr (fun k => by rw [if_neg c1, if_pos (by omega), if_pos (by omega), if_pos (by omega)]) ?_
   refine Ev.bind (nl_ev _ (by rw [List.length_drop, List.length_take]; omega)) ?_
   by_cases c2 : xs[i].f0.f2 = nl ((T.take (xs[i].f0.f0 + xs[i].f0.f1).toNat).drop xs[i].f0.f0.toNat)
   ·refine Ev.congr (fun k => by rw [if_pos c2, show (i : Int) + 1 = ((i + 1 : Nat) : Int) by omega]) ?_
    have e : decide (OkPcs T ((xs.drop i).map cv)) = decide (OkPcs T ((xs.drop (i + 1)).map cv)) := decide_eq_decide.2 (hok.trans ⟨fun h => h.2, fun h => ⟨⟨by simp only [cv]; omega, c2⟩, h⟩⟩)
    rw [e]
    exact ih (i + 1) (by omega)
   ·exact ev_const fun k => by rw [if_neg c2]; exact no (fun h => c2 h.2)
theorem pvalid_ev (T : List Int) (xs : List S86) : Ev (fun k => spec_L4PieceValid.f k T xs) (decide ((openV T (xs.map cv)).isSome = true)) := by
 unfold spec_L4PieceValid.f
 by_cases c : (T.length : Int) > 220000
 ·refine Ev.congr (fun k => if_pos c) ?_
  refine ev_now fun k => ?_
  simp only [spec_L4PieceValid.j0]
  rw [if_pos trivial]
  unfold openV
  rw [if_neg (fun h => by have := h.1; omega)]; rfl
 ·refine Ev.congr (fun k => if_neg c) ?_
  refine Ev.bind (valid_ev xs) ?_
  cases hV : grownV (xs.map cv) with
  | none =>
   refine ev_now fun k => ?_
   simp only [spec_L4PieceValid.j0]
   rw [if_pos (by simp)]
   unfold openV
   rw [hV]; split <;> rfl
  | some t =>
   obtain ⟨h1, h2, h3, h4, h5, h6⟩ := grownV_toL hV
   rw [List.length_map] at h4
   refine Ev.step (fun k => by simp only [spec_L4PieceValid.j0]; rw [if_neg (by simp)]) ?_
   have h := pvalid_loop T xs (by omega) h4 h5 xs.length 0 (Nat.zero_add _)
   rw [List.drop_zero] at h
   have e : decide ((openV T (xs.map cv)).isSome = true) = decide (OkPcs T (xs.map cv)) := by
    refine decide_eq_decide.2 ?_
    unfold openV
    by_cases q : OkPcs T (xs.map cv)
    ·rw [if_pos ⟨by omega, q⟩, hV]; simp [q]
    ·rw [if_neg (fun z => q z.2)]; simp [q]
   rw [e]; exact h
/-! the specification's lists of levels are trees told in order -/
def gx (x : S86) : Pc × Int := itv (cv x)
def mkS (x : Pc × Int) : S86 := ⟨⟨x.1.off, x.1.len, x.1.brk⟩, x.2⟩
theorem mkS_gx (x : S86) : mkS (gx x) = x := rfl
theorem gx_mkS (x : Pc × Int) : gx (mkS x) = x := rfl
theorem of_gx {xs : List S86} {L : List (Pc × Int)} (h : xs.map gx = L) : xs = L.map mkS := by
 subst h; rw [List.map_map]; simp [Function.comp_def, mkS_gx]
theorem map_gx_mkS (L : List (Pc × Int)) : (L.map mkS).map gx = L := by rw [List.map_map]; simp [Function.comp_def, gx_mkS]
theorem rd_lv (xs : List S86) (i : Nat) (h : i < xs.length) : (rd_T86 xs (i : Int)).f1 = TP.lv (xs.map gx) i := by
 rw [rdI xs i h]; unfold TP.lv; rw [List.getElem?_map, List.getElem?_eq_getElem h]; rfl
def Bd (L : List (Pc × Int)) : Prop := L.length ≤ 20000 ∧ ∀ j, j < L.length → -100000 ≤ TP.lv L j ∧ TP.lv L j ≤ 100000
structure IsRange (L : List (Pc × Int)) (i lo hi : Nat) : Prop where
 a : lo ≤ i
 b : i < hi
 c : hi ≤ L.length
 d : ∀ j, lo ≤ j → j < i → TP.lv L i < TP.lv L j
 e : 0 < lo → TP.lv L (lo - 1) ≤ TP.lv L i
 f : ∀ j, i < j → j < hi → TP.lv L i < TP.lv L j
 g : hi < L.length → TP.lv L hi ≤ TP.lv L i
theorem range_of {L A B : List (Pc × Int)} {l r : Tree} {v : Pc} {k : Int} (h : TP.Seg L A (.node l v r) k B) : IsRange L (A.length + TP.cnt l) A.length (A.length + (TP.cnt l + TP.cnt r + 1)) := by
 have hl := h.len
 simp only [TP.cnt] at hl
 refine ⟨by omega, by omega, by omega, fun j a b => ?_, fun h0 => ?_, fun j a b => ?_, fun h0 => ?_⟩
 ·rw [h.root]; exact h.inL j a b
 ·rw [h.root]; have := h.before h0; omega
 ·rw [h.root]; exact h.inR j a (by omega)
 ·rw [h.root]; have := h.behind (by simp only [TP.cnt]; omega); simp only [TP.cnt] at this; omega
theorem range_up (xs : List S86) (i lo hi : Nat) (h : IsRange (xs.map gx) i lo hi) (hn : xs.length ≤ 20000) (d : Nat) : ∀ j : Nat, j + d = hi → i < j → Ev (fun k => spec_l2Range.l1 k xs (i : Int) (lo : Int) (j : Int)) ((lo : Int), (hi : Int)) := by
 have hb := h.b
 have hc := h.c
 rw [List.length_map] at hc
 induction d with
 | zero =>
  intro j hj hij
  obtain rfl : j = hi := by omega
  refine ev_now fun k => ?_
  simp only [spec_l2Range.l1]
  by_cases c : j < xs.length
  ·have hg := h.g (by rw [List.length_map]; exact c)
   rw [if_pos (by omega), if_pos (by omega), if_pos (by omega), if_pos (by omega), rd_lv xs j c, rd_lv xs i (by omega), if_neg (by omega)]
  ·rw [if_neg (by omega)]
 | succ d ih =>
  intro j hj hij
  have hf := h.f j hij (by omega)
  refine Ev.step (fun k => by simp only [spec_l2Range.l1]; rw [if_pos (by omega), if_pos (by omega), if_pos (by omega), if_pos (by omega), rd_lv xs j (by omega), rd_lv xs i (by omega), if_pos (by omega), w64 (by omega), show (j : Int) + 1 = ((j + 1 : Nat) : Int) by omega]) ?_
  exact ih (j + 1) (by omega) (by omega)
theorem range_down (xs : List S86) (i lo hi : Nat) (h : IsRange (xs.map gx) i lo hi) (hn : xs.length ≤ 20000) (d : Nat) : ∀ j : Nat, lo + d = j → j ≤ i → Ev (fun k => spec_l2Range.l0 k xs (i : Int) (j : Int)) ((lo : Int), (hi : Int)) := by
 have hb := h.b
 have hc := h.c
 rw [List.length_map] at hc
 have fin : Ev (fun k => spec_l2Range.j1 k xs (i : Int) (lo : Int)) ((lo : Int), (hi : Int)) := by
  refine Ev.step (fun k => by simp only [spec_l2Range.j1]; rw [w64 (by omega), show (i : Int) + 1 = ((i + 1 : Nat) : Int) by omega]) ?_
  exact range_up xs i lo hi h hn (hi - (i + 1)) (i + 1) (by omega) (by omega)
 induction d with
 | zero =>
  intro j hj hij
  obtain rfl : lo = j := by omega
  by_cases c : 0 < lo
  ·have he := h.e c
   refine Ev.step (fun k => by simp only [spec_l2Range.l0]; rw [if_pos (by omega), w64 (by omega), if_pos (by omega), if_pos (by omega), if_pos (by omega), if_pos (by omega), show (lo : Int) - 1 = ((lo - 1 : Nat) : Int) by omega, rd_lv xs (lo - 1) (by omega), rd_lv xs i (by omega), if_neg (by omega)]) fin
  ·exact Ev.step (fun k => by simp only [spec_l2Range.l0]; rw [if_neg (by omega)]) fin
 | succ d ih =>
  intro j hj hij
  have hd := h.d (j - 1) (by omega) (by omega)
  refine Ev.step (fun k => by simp only [spec_l2Range.l0]; rw [if_pos (by omega), w64 (by omega), if_pos (by omega), if_pos (by omega), if_pos (by omega), if_pos (by omega), show (j : Int) - 1 = ((j - 1 : Nat) : Int) by omega, rd_lv xs (j - 1) (by omega), rd_lv xs i (by omega), if_pos (by omega)]) ?_
  exact ih (j - 1) (by omega) (by omega)
theorem range_ev (xs : List S86) (i lo hi : Nat) (h : IsRange (xs.map gx) i lo hi) (hn : xs.length ≤ 20000) : Ev (fun k => spec_l2Range.f k xs (i : Int)) ((lo : Int), (hi : Int)) := by
 unfold spec_l2Range.f
 exact range_down xs i lo hi h hn (i - lo) i (by have := h.a; omega) (Nat.le_refl _)
theorem height_loop (xs : List S86) (lo hi h : Nat) (m : Int) (hh : hi ≤ xs.length) (hB : Bd (xs.map gx)) (h1 : ∀ j, lo ≤ j → j < hi → m ≤ TP.lv (xs.map gx) j ∧ TP.lv (xs.map gx) j ≤ m + h - 1)
  (h2 : ∃ j, lo ≤ j ∧ j < hi ∧ TP.lv (xs.map gx) j = m) (h3 : ∃ j, lo ≤ j ∧ j < hi ∧ TP.lv (xs.map gx) j = m + h - 1) (d : Nat) :
  ∀ (j : Nat) (x7 x8 : Int), j + d = hi → lo ≤ j → m ≤ x7 → x8 ≤ m + h - 1 → (∀ q, lo ≤ q → q < j → x7 ≤ TP.lv (xs.map gx) q ∧ TP.lv (xs.map gx) q ≤ x8) →
   Ev (fun k => spec_l2Height.l0 k xs (hi : Int) x7 x8 (j : Int)) (h : Int) := by
 obtain ⟨hn, hB⟩ := hB
 rw [List.length_map] at hn hB
 obtain ⟨j2, a2, b2, e2⟩ := h2
 obtain ⟨j3, a3, b3, e3⟩ := h3
 have hm := hB j2 (by omega)
 have hM := hB j3 (by omega)
 induction d with
 | zero =>
  intro j x7 x8 hj hlo hm7 hm8 hq
  obtain rfl : j = hi := by omega
  have k2 := hq j2 a2 b2
  have k3 := hq j3 a3 b3
  refine ev_now fun k => ?_
  simp only [spec_l2Height.l0]
  rw [if_neg (by omega), w64 (x := x8 - x7) (by omega), w64 (by omega)]
  congr 1; omega
 | succ d ih =>
  intro j x7 x8 hj hlo hm7 hm8 hq
  have hv := h1 j hlo (by omega)
  have step : ∀ y7 y8 : Int, y7 ≤ x7 → x8 ≤ y8 → y7 ≤ TP.lv (xs.map gx) j → TP.lv (xs.map gx) j ≤ y8 → m ≤ y7 → y8 ≤ m + h - 1 → Ev (fun k => spec_l2Height.l0 k xs (hi : Int) y7 y8 ((j + 1 : Nat) : Int)) (h : Int) := fun y7 y8 p1 p2 p3 p4 p5 p6 =>
   ih (j + 1) y7 y8 (by omega) (by omega) p5 p6 (fun q a b => by
    by_cases e : q = j
    ·subst e; exact ⟨p3, p4⟩
    ·have := hq q a (by omega); omega)
  by_cases c1 : TP.lv (xs.map gx) j < x7
  ·by_cases c2 : TP.lv (xs.map gx) j > x8
   ·exact Ev.step (fun k => by simp only [spec_l2Height.l0]; rw [if_pos (by omega), if_pos (by omega), if_pos (by omega), rd_lv xs j (by omega), if_pos c1, if_pos c2, w64 (by omega), show (j : Int) + 1 = ((j + 1 : Nat) : Int) by omega]) (step _ _ (by omega) (by omega) (by omega) (by omega) (by omega) (by omega))
   ·exact Ev.step (fun k => by simp only [spec_l2Height.l0]; rw [if_pos (by omega), if_pos (by omega), if_pos (by omega), rd_lv xs j (by omega), if_pos c1, if_neg c2, w64 (by omega), show (j : Int) + 1 = ((j + 1 : Nat) : Int) by omega]) (step _ _ (by omega) (by omega) (by omega) (by omega) (by omega) (by omega))
  ·by_cases c2 : TP.lv (xs.map gx) j > x8
   ·exact Ev.step (fun k => by simp only [spec_l2Height.l0]; rw [if_pos (by omega), if_pos (by omega), if_pos (by omega), rd_lv xs j (by omega), if_neg c1, if_pos c2, w64 (by omega), show (j : Int) + 1 = ((j + 1 : Nat) : Int) by omega]) (step _ _ (by omega) (by omega) (by omega) (by omega) (by omega) (by omega))
   ·exact Ev.step (fun k => by simp only [spec_l2Height.l0]; rw [if_pos (by omega), if_pos (by omega), if_pos (by omega), rd_lv xs j (by omega), if_neg c1, if_neg c2, w64 (by omega), show (j : Int) + 1 = ((j + 1 : Nat) : Int) by omega]) (step _ _ (by omega) (by omega) (by omega) (by omega) (by omega) (by omega))
theorem height_ev (xs : List S86) (lo hi h : Nat) (H : TP.Hgt (xs.map gx) lo hi h) (hh : hi ≤ xs.length) (hB : Bd (xs.map gx)) : Ev (fun k => spec_l2Height.f k xs (lo : Int) (hi : Int)) (h : Int) := by
 unfold spec_l2Height.f
 rcases H with ⟨a, rfl⟩ | ⟨a, b, m, h1, h2, h3⟩
 ·exact ev_const fun k => if_pos (by omega)
 ·have hv := h1 lo (Nat.le_refl _) a
  refine Ev.congr (fun k => by rw [if_neg (by omega), if_pos (by omega), if_pos (by omega), rd_lv xs lo (by omega)]) ?_
  exact height_loop xs lo hi h m hh hB h1 h2 h3 (hi - lo) lo _ _ (by omega) (Nat.le_refl _) (by omega) (by omega) (fun q a b => by omega)
theorem seg_height (xs : List S86) {A B : List (Pc × Int)} {t : Tree} {k : Int} (h : TP.Seg (xs.map gx) A t k B) (hB : Bd (xs.map gx)) : Ev (fun n => spec_l2Height.f n xs (A.length : Int) ((A.length + TP.cnt t : Nat) : Int)) (TP.hgt t : Int) :=
 height_ev xs _ _ _ h.hgt (by have := h.len; rw [List.length_map] at this; omega) hB
theorem child_loop (xs : List S86) (lo hi c : Nat) (hn : xs.length ≤ 20000) (hh : hi ≤ xs.length) (h1 : lo ≤ c) (h2 : c < hi) (hm : ∀ j, lo ≤ j → j < hi → j ≠ c → TP.lv (xs.map gx) c < TP.lv (xs.map gx) j) (d : Nat) :
  ∀ (j at_ : Nat), j + d = hi → lo ≤ j → lo ≤ at_ → at_ < hi → (at_ = lo ∨ at_ < j) → (c < j → at_ = c) → Ev (fun k => spec_l2Child.l0 k xs (hi : Int) (at_ : Int) (j : Int)) (c : Int) := by
 induction d with
 | zero =>
  intro j at_ hj _ _ _ _ hc
  obtain rfl : j = hi := by omega
  refine ev_now fun k => ?_
  simp only [spec_l2Child.l0]
  rw [if_neg (by omega), hc h2]
 | succ d ih =>
  intro j at_ hj hlo ha1 ha2 ha3 hc
  by_cases cl : TP.lv (xs.map gx) j < TP.lv (xs.map gx) at_
  ·refine Ev.step (fun k => by simp only [spec_l2Child.l0]; rw [if_pos (by omega), if_pos (by omega), if_pos (by omega), if_pos (by omega), if_pos (by omega), rd_lv xs j (by omega), rd_lv xs at_ (by omega), if_pos cl, w64 (by omega), show (j : Int) + 1 = ((j + 1 : Nat) : Int) by omega]) ?_
   refine ih (j + 1) j (by omega) (by omega) (by omega) (by omega) (by omega) (fun h => ?_)
   by_cases e : j = c
   ·exact e
   ·have ec := hc (by omega)
    subst ec
    have := hm j hlo (by omega) e
    omega
  ·refine Ev.step (fun k => by simp only [spec_l2Child.l0]; rw [if_pos (by omega), if_pos (by omega), if_pos (by omega), if_pos (by omega), if_pos (by omega), rd_lv xs j (by omega), rd_lv xs at_ (by omega), if_neg cl, w64 (by omega), show (j : Int) + 1 = ((j + 1 : Nat) : Int) by omega]) ?_
   refine ih (j + 1) at_ (by omega) (by omega) ha1 ha2 (by omega) (fun h => ?_)
   by_cases e : c < j
   ·exact hc e
   ·obtain rfl : j = c := by omega
    by_cases e2 : at_ = j
    ·exact e2
    ·have := hm at_ ha1 ha2 e2
     omega
theorem seg_child (xs : List S86) {A B : List (Pc × Int)} {l r : Tree} {v : Pc} {k : Int} (h : TP.Seg (xs.map gx) A (.node l v r) k B) (hn : xs.length ≤ 20000) : Ev (fun n => spec_l2Child.f n xs (A.length : Int) ((A.length + TP.cnt (.node l v r) : Nat) : Int)) ((A.length + TP.cnt l : Nat) : Int) := by
 have hl := h.len
 rw [List.length_map] at hl
 simp only [TP.cnt] at hl ⊢
 unfold spec_l2Child.f
 refine child_loop xs A.length (A.length + (TP.cnt l + TP.cnt r + 1)) (A.length + TP.cnt l) hn (by omega) (by omega) (by omega) (fun j a b c => ?_) _ A.length A.length rfl (Nat.le_refl _) (Nat.le_refl _) (by omega) (.inl rfl) (fun h => by omega)
 rw [h.root]
 by_cases e : j < A.length + TP.cnt l
 ·exact h.inL j a e
 ·exact h.inR j (by omega) (by omega)
theorem child_none (xs : List S86) (lo : Nat) : Ev (fun n => spec_l2Child.f n xs (lo : Int) (lo : Int)) (lo : Int) := by
 unfold spec_l2Child.f
 exact ev_now fun k => by simp only [spec_l2Child.l0]; rw [if_neg (by omega)]
theorem seg_child_any (xs : List S86) {A B : List (Pc × Int)} {t : Tree} {k : Int} (h : TP.Seg (xs.map gx) A t k B) (hn : xs.length ≤ 20000) : ∃ c, Ev (fun n => spec_l2Child.f n xs (A.length : Int) ((A.length + TP.cnt t : Nat) : Int)) c := by
 cases t with
 | nil => exact ⟨_, by simp only [TP.cnt, Nat.add_zero]; exact child_none xs A.length⟩
 | node l v r => exact ⟨_, seg_child xs h hn⟩
/-! levels changed, place by place -/
def upd (xs : List S86) (f : Nat → Int → Int) : List S86 := xs.mapIdx fun q x => ⟨x.f0, f q x.f1⟩
theorem upd_length (xs : List S86) (f : Nat → Int → Int) : (upd xs f).length = xs.length := by simp [upd]
theorem upd_get (xs : List S86) (f : Nat → Int → Int) (j : Nat) (h : j < xs.length) : rd_T86 (upd xs f) (j : Int) = ⟨(rd_T86 xs (j : Int)).f0, f j (rd_T86 xs (j : Int)).f1⟩ := by
 rw [rdI _ j (by rw [upd_length]; exact h), rdI xs j h]; simp [upd]
theorem upd_congr (xs : List S86) (f g : Nat → Int → Int) (h : ∀ j, j < xs.length → f j (rd_T86 xs (j : Int)).f1 = g j (rd_T86 xs (j : Int)).f1) : upd xs f = upd xs g := by
 refine List.ext_getElem (by rw [upd_length, upd_length]) fun j a b => ?_
 have hj : j < xs.length := by rw [upd_length] at a; exact a
 have := h j hj
 rw [rdI xs j hj] at this
 simp [upd, this]
theorem upd_set (xs : List S86) (f : Nat → Int → Int) (j : Nat) (w : Int) (h : j < xs.length) :
  (upd xs f).set j (⟨(⟨(rd_T86 (upd xs f) (j : Int)).f0.f0, (rd_T86 (upd xs f) (j : Int)).f0.f1, (rd_T86 (upd xs f) (j : Int)).f0.f2⟩ : S84), w⟩ : S86) = upd xs (fun q v => if q = j then w else f q v) := by
 refine List.ext_getElem (by rw [List.length_set, upd_length, upd_length]) fun q a b => ?_
 rw [List.getElem_set]
 by_cases e : j = q
 ·subst e
  rw [if_pos rfl, upd_get xs f j h, rdI xs j h]
  simp [upd]
 ·rw [if_neg e]
  simp [upd, Ne.symm e]
theorem upd_id (xs : List S86) : upd xs (fun _ v => v) = xs := by
 refine List.ext_getElem (upd_length _ _) fun q a b => ?_
 simp [upd]
theorem upd_fst (xs : List S86) (f : Nat → Int → Int) : ((upd xs f).map gx).map Prod.fst = (xs.map gx).map Prod.fst := by
 refine List.ext_getElem (by simp [upd_length]) fun q a b => ?_
 simp [upd, gx, itv, cv, pcOf]
theorem upd_lv (xs : List S86) (f : Nat → Int → Int) (j : Nat) (h : j < xs.length) : TP.lv ((upd xs f).map gx) j = f j (TP.lv (xs.map gx) j) := by
 rw [← rd_lv _ j (by rw [upd_length]; exact h), upd_get xs f j h, ← rd_lv xs j h]
def outerB (right : Bool) (y q : Nat) : Bool := if right then decide (q < y) else decide (q > y)
def lowerB (right : Bool) (i q : Nat) : Bool := if right then decide (q > i) else decide (q < i)
def F (right : Bool) (lo i y j : Nat) (q : Nat) (v : Int) : Int := if lo ≤ q ∧ q < j then v - (if outerB right y q then 1 else 0) + (if lowerB right i q then 1 else 0) else v
theorem turn_l1 (xs : List S86) (right : Bool) (lo hi i y : Nat) (level : Int) (hB : Bd (xs.map gx)) (hhi : hi ≤ xs.length) (hi' : i < xs.length) (hy : y < xs.length) (hlv : -100000 ≤ level ∧ level ≤ 100000) (d : Nat) :
  ∀ j : Nat, j + d = hi → lo ≤ j → Ev (fun k => spec_l2Turn.l1 k (upd xs (F right lo i y j)) (i : Int) right (hi : Int) level (y : Int) (j : Int)) (upd xs (fun q v => if q = i then level + 1 else if q = y then level else F right lo i y hi q v)) := by
 obtain ⟨hn, hB⟩ := hB
 rw [List.length_map] at hn hB
 induction d with
 | zero =>
  intro j hj hlo
  obtain rfl : j = hi := by omega
  refine ev_now fun k => ?_
  simp only [spec_l2Turn.l1]
  rw [if_neg (by omega), if_pos (by omega), if_pos (by rw [upd_length]; omega)]
  simp only [Int.toNat_natCast]
  rw [upd_set xs _ y level hy]
  simp only [Option.bind_some]
  rw [if_pos (by omega), if_pos (by rw [upd_length]; omega), w64 (by omega), upd_set xs _ i (level + 1) hi']
 | succ d ih =>
  intro j hj hlo
  have hb := hB j (by omega)
  rw [← rd_lv xs j (by omega)] at hb
  have key : Ev (fun k => spec_l2Turn.j3 k (upd xs (F right lo i y j)) (i : Int) right (hi : Int) level (y : Int) (j : Int) (outerB right y j) (lowerB right i j)) (upd xs (fun q v => if q = i then level + 1 else if q = y then level else F right lo i y hi q v)) := by
   have hrec := ih (j + 1) (by omega) (by omega)
   have e0 : F right lo i y j j (rd_T86 xs (j : Int)).f1 = (rd_T86 xs (j : Int)).f1 := by unfold F; rw [if_neg (by omega)]
   have el : (upd xs (F right lo i y j)).length = xs.length := upd_length _ _
   have eN : ∀ w : Int, w = (rd_T86 xs (j : Int)).f1 - (if outerB right y j then 1 else 0) + (if lowerB right i j then 1 else 0) → upd xs (fun q v => if q = j then w else F right lo i y j q v) = upd xs (F right lo i y (j + 1)) := fun w hw => by
    refine upd_congr _ _ _ fun q hq => ?_
    by_cases e : q = j
    ·subst e; rw [if_pos rfl, hw]; unfold F; rw [if_pos (show lo ≤ q ∧ q < q + 1 by omega)]
    ·rw [if_neg e]; unfold F
     by_cases e2 : lo ≤ q ∧ q < j
     ·rw [if_pos e2, if_pos (show lo ≤ q ∧ q < j + 1 by omega)]
     ·rw [if_neg e2, if_neg (show ¬ (lo ≤ q ∧ q < j + 1) by omega)]
   cases ho : outerB right y j with
   | true =>
    cases hl : lowerB right i j with
    | true =>
     refine Ev.step (f := fun k => spec_l2Turn.l1 k (upd xs (F right lo i y (j + 1))) (i : Int) right (hi : Int) level (y : Int) ((j + 1 : Nat) : Int)) (fun k => ?_) hrec
     simp only [spec_l2Turn.j3]
     rw [if_pos trivial, if_pos (by omega), if_pos (by omega)]
     simp only [Int.toNat_natCast]
     rw [upd_set xs _ j _ (by omega)]
     simp only [Option.bind_some]
     rw [if_pos trivial, upd_set xs _ j _ (by omega), upd_get xs _ j (by omega), upd_get xs _ j (by omega), if_pos rfl, e0]
     dsimp only
     rw [w64 (x := (rd_T86 xs (j : Int)).f1 - 1) (by omega), w64 (x := (rd_T86 xs (j : Int)).f1 - 1 + 1) (by omega), w64 (by omega)]
     rw [← eN _ rfl, ho, hl]
     congr 1
     refine upd_congr _ _ _ fun q hq => ?_
     by_cases e : q = j
     ·rw [if_pos e, if_pos e]; simp
     ·rw [if_neg e, if_neg e, if_neg e]
    | false =>
     refine Ev.step (f := fun k => spec_l2Turn.l1 k (upd xs (F right lo i y (j + 1))) (i : Int) right (hi : Int) level (y : Int) ((j + 1 : Nat) : Int)) (fun k => ?_) hrec
     simp only [spec_l2Turn.j3]
     rw [if_pos trivial, if_pos (by omega), if_pos (by omega)]
     simp only [Int.toNat_natCast]
     rw [upd_set xs _ j _ (by omega)]
     simp only [Option.bind_some]
     rw [if_neg (by simp), upd_get xs _ j (by omega), e0, w64 (x := (rd_T86 xs (j : Int)).f1 - 1) (by omega), w64 (by omega), eN _ (by rw [ho, hl]; simp)]
     rfl
   | false =>
    cases hl : lowerB right i j with
    | true =>
     refine Ev.step (f := fun k => spec_l2Turn.l1 k (upd xs (F right lo i y (j + 1))) (i : Int) right (hi : Int) level (y : Int) ((j + 1 : Nat) : Int)) (fun k => ?_) hrec
     simp only [spec_l2Turn.j3]
     rw [if_neg (by simp), if_pos trivial, if_pos (by omega), if_pos (by omega)]
     simp only [Int.toNat_natCast]
     rw [upd_set xs _ j _ (by omega), upd_get xs _ j (by omega), e0, w64 (x := (rd_T86 xs (j : Int)).f1 + 1) (by omega), w64 (by omega), eN _ (by rw [ho, hl]; simp)]
     rfl
    | false =>
     refine Ev.step (f := fun k => spec_l2Turn.l1 k (upd xs (F right lo i y (j + 1))) (i : Int) right (hi : Int) level (y : Int) ((j + 1 : Nat) : Int)) (fun k => ?_) hrec
     simp only [spec_l2Turn.j3]
     rw [if_neg (by simp), if_neg (by simp), w64 (by omega)]
     have e3 : upd xs (F right lo i y j) = upd xs (F right lo i y (j + 1)) := by
      rw [← eN (rd_T86 xs (j : Int)).f1 (by rw [ho, hl]; simp)]
      refine upd_congr _ _ _ fun q hq => ?_
      by_cases e : q = j
      ·subst e; rw [if_pos rfl, e0]
      ·rw [if_neg e]
     rw [e3]
     rfl
  cases right with
  | true =>
   refine Ev.step (fun k => by simp only [spec_l2Turn.l1]; rw [if_pos (by omega), if_pos trivial, show decide ((j : Int) < (y : Int)) = outerB true y j by unfold outerB; simp, show decide ((j : Int) > (i : Int)) = lowerB true i j by unfold lowerB; simp]) key
  | false =>
   refine Ev.step (fun k => by simp only [spec_l2Turn.l1]; rw [if_pos (by omega), if_neg (by simp), show decide ((j : Int) > (y : Int)) = outerB false y j by unfold outerB; simp, show decide ((j : Int) < (i : Int)) = lowerB false i j by unfold lowerB; simp]) key
theorem turn_l0 (xs : List S86) (right : Bool) (lo hi i y from_ to_ : Nat) (level : Int) (hn : xs.length ≤ 20000) (hto : to_ ≤ xs.length) (h1 : from_ ≤ y) (h2 : y < to_) (hlv : -100000 ≤ level ∧ level ≤ 100000)
  (hu : ∀ q, from_ ≤ q → q < to_ → (TP.lv (xs.map gx) q = level + 1 ↔ q = y)) (R : List S86) (hR : Ev (fun k => spec_l2Turn.l1 k xs (i : Int) right (hi : Int) level (y : Int) (lo : Int)) R) (d : Nat) :
  ∀ (j c : Nat), j + d = to_ → from_ ≤ j → (y < j → c = y) → Ev (fun k => spec_l2Turn.l0 k xs (i : Int) right (lo : Int) (hi : Int) level (to_ : Int) (c : Int) (j : Int)) R := by
 induction d with
 | zero =>
  intro j c hj hf hc
  obtain rfl : j = to_ := by omega
  refine Ev.step (fun k => by simp only [spec_l2Turn.l0]; rw [if_neg (by omega), hc h2]) hR
 | succ d ih =>
  intro j c hj hf hc
  have hq := hu j hf (by omega)
  by_cases e : j = y
  ·refine Ev.step (fun k => by simp only [spec_l2Turn.l0]; rw [if_pos (by omega), if_pos (by omega), if_pos (by omega), rd_lv xs j (by omega), w64 (x := level + 1) (by omega), if_pos (hq.2 e), w64 (by omega), show (j : Int) + 1 = ((j + 1 : Nat) : Int) by omega]) ?_
   exact ih (j + 1) j (by omega) (by omega) (fun _ => e)
  ·refine Ev.step (fun k => by simp only [spec_l2Turn.l0]; rw [if_pos (by omega), if_pos (by omega), if_pos (by omega), rd_lv xs j (by omega), w64 (x := level + 1) (by omega), if_neg (fun h => e (hq.1 h)), w64 (by omega), show (j : Int) + 1 = ((j + 1 : Nat) : Int) by omega]) ?_
   exact ih (j + 1) c (by omega) (by omega) (fun h => hc (by omega))
theorem turn_ev (xs : List S86) (right : Bool) (lo hi i y : Nat) (hB : Bd (xs.map gx)) (hr : IsRange (xs.map gx) i lo hi) (h1 : (if right then lo else i + 1) ≤ y) (h2 : y < (if right then i else hi))
  (hu : ∀ q, (if right then lo else i + 1) ≤ q → q < (if right then i else hi) → (TP.lv (xs.map gx) q = TP.lv (xs.map gx) i + 1 ↔ q = y)) :
  Ev (fun k => spec_l2Turn.f k xs (i : Int) right) (upd xs (fun q v => if q = i then TP.lv (xs.map gx) i + 1 else if q = y then TP.lv (xs.map gx) i else F right lo i y hi q v)) := by
 have hn := hB.1
 have ha := hr.a
 have hb := hr.b
 have hc := hr.c
 rw [List.length_map] at hn hc
 have hlv := hB.2 i (by rw [List.length_map]; omega)
 unfold spec_l2Turn.f
 refine Ev.bind (range_ev xs i lo hi hr hn) ?_
 refine Ev.congr (fun k => by rw [if_pos (by omega), if_pos (by omega), rd_lv xs i (by omega)]) ?_
 have e0 : upd xs (F right lo i y lo) = xs := by
  rw [show upd xs (F right lo i y lo) = upd xs (fun _ v => v) from upd_congr _ _ _ fun q _ => by unfold F; rw [if_neg (by omega)]]
  exact upd_id xs
 cases right with
 | true =>
  simp only [if_true] at h1 h2 hu
  have hl1 := turn_l1 xs true lo hi i y (TP.lv (xs.map gx) i) hB hc (by omega) (by omega) hlv (hi - lo) lo (by omega) (Nat.le_refl _)
  rw [e0] at hl1
  refine Ev.congr (fun k => if_pos rfl) ?_
  refine Ev.step (fun k => by simp only [spec_l2Turn.j0]; rfl) ?_
  exact turn_l0 xs true lo hi i y lo i _ hn (by omega) h1 h2 hlv hu _ hl1 (i - lo) lo lo (by omega) (Nat.le_refl _) (fun h => by omega)
 | false =>
  simp only [Bool.false_eq_true, if_false] at h1 h2 hu
  have hl1 := turn_l1 xs false lo hi i y (TP.lv (xs.map gx) i) hB hc (by omega) (by omega) hlv (hi - lo) lo (by omega) (Nat.le_refl _)
  rw [e0] at hl1
  refine Ev.congr (fun k => by rw [if_neg (by simp), w64 (by omega), show (i : Int) + 1 = ((i + 1 : Nat) : Int) by omega]) ?_
  refine Ev.step (fun k => by simp only [spec_l2Turn.j0]; rfl) ?_
  exact turn_l0 xs false lo hi i y (i + 1) hi _ hn hc h1 h2 hlv hu _ hl1 (hi - (i + 1)) (i + 1) (i + 1) (by omega) (Nat.le_refl _) (fun h => by omega)
theorem turnR_ev (xs : List S86) {A B : List (Pc × Int)} {a b r : Tree} {x v : Pc} {k : Int} (h : TP.Seg (xs.map gx) A (.node (.node a x b) v r) k B) (hB : Bd (xs.map gx)) :
  ∃ ys, Ev (fun n => spec_l2Turn.f n xs ((A.length + TP.cnt (.node a x b) : Nat) : Int) true) ys ∧ ys.map gx = A ++ TP.flat (.node a x (.node b v r)) k ++ B := by
 have hl := h.len
 rw [List.length_map] at hl
 have hc : TP.cnt (.node a x b) = TP.cnt a + TP.cnt b + 1 := rfl
 have hc2 : TP.cnt (.node (.node a x b) v r) = TP.cnt (.node a x b) + TP.cnt r + 1 := rfl
 have hsl := h.left
 have hr := range_of h
 have hroot := h.root
 refine ⟨_, turn_ev xs true A.length _ _ (A.length + TP.cnt a) hB hr (by simp) (by simp only [if_true]; omega) (fun q a1 a2 => ?_), ?_⟩
 ·simp only [if_true] at a1 a2
  rw [hroot]
  constructor
  ·intro e
   by_cases c : q = A.length + TP.cnt a
   ·exact c
   ·by_cases c2 : q < A.length + TP.cnt a
    ·have := hsl.inL q a1 c2; omega
    ·have := hsl.inR q (by omega) (by omega); omega
  ·rintro rfl; exact hsl.root
 ·refine TP.turn_right h (upd_fst _ _) (fun j hj => ?_)
  rw [List.length_map] at hj
  rw [upd_lv xs _ j hj, hroot]
  simp only [F, outerB, lowerB, if_true, decide_eq_true_eq]
  repeat' split
  all_goals first | rfl | omega
theorem turnL_ev (xs : List S86) {A B : List (Pc × Int)} {a b l : Tree} {x v : Pc} {k : Int} (h : TP.Seg (xs.map gx) A (.node l v (.node a x b)) k B) (hB : Bd (xs.map gx)) :
  ∃ ys, Ev (fun n => spec_l2Turn.f n xs ((A.length + TP.cnt l : Nat) : Int) false) ys ∧ ys.map gx = A ++ TP.flat (.node (.node l v a) x b) k ++ B := by
 have hl := h.len
 rw [List.length_map] at hl
 have hc : TP.cnt (.node a x b) = TP.cnt a + TP.cnt b + 1 := rfl
 have hc2 : TP.cnt (.node l v (.node a x b)) = TP.cnt l + TP.cnt (.node a x b) + 1 := rfl
 have hsr := h.right
 have hA : (A ++ (TP.flat l (k + 1) ++ [(v, k)])).length = A.length + TP.cnt l + 1 := by simp [TP.flat_length]; omega
 have hr := range_of h
 have hroot := h.root
 have hroot2 := hsr.root
 rw [hA] at hroot2
 refine ⟨_, turn_ev xs false A.length _ _ (A.length + TP.cnt l + 1 + TP.cnt a) hB hr (by simp only [Bool.false_eq_true, if_false]; omega) (by simp only [Bool.false_eq_true, if_false]; omega) (fun q a1 a2 => ?_), ?_⟩
 ·simp only [Bool.false_eq_true, if_false] at a1 a2
  rw [hroot]
  constructor
  ·intro e
   by_cases c : q = A.length + TP.cnt l + 1 + TP.cnt a
   ·exact c
   ·by_cases c2 : q < A.length + TP.cnt l + 1 + TP.cnt a
    ·have := hsr.inL q (by omega) (by omega); omega
    ·have := hsr.inR q (by omega) (by omega); omega
  ·rintro rfl; exact hroot2
 ·refine TP.turn_left h (upd_fst _ _) (fun j hj => ?_)
  rw [List.length_map] at hj
  rw [upd_lv xs _ j hj, hroot]
  simp only [F, outerB, lowerB, Bool.false_eq_true, if_false, decide_eq_true_eq]
  repeat' split
  all_goals first | rfl | omega
def wi : Option (Nat × Int) → Int | none => -1 | some (q, _) => q
def WOK (L : List (Pc × Int)) (w : Option (Nat × Int)) : Prop := ∀ q j, w = some (q, j) → q < L.length ∧ TP.lv L q = j
theorem scan_ev (xs : List S86) (hB : Bd (xs.map gx)) (x2 : Int) (R : List S86) (t : Tree) : ∀ (A B : List (Pc × Int)) (k : Int) (w : Option (Nat × Int)), TP.Seg (xs.map gx) A t k B → WOK (xs.map gx) w →
  (WOK (xs.map gx) (TP.scan t k A.length w) → Ev (fun n => spec_l2Repair.l1 n xs x2 (wi (TP.scan t k A.length w)) (xs.length : Int) ((A.length + TP.cnt t : Nat) : Int)) R) →
  Ev (fun n => spec_l2Repair.l1 n xs x2 (wi w) (xs.length : Int) (A.length : Int)) R := by
 have hn : xs.length ≤ 20000 := by have := hB.1; rwa [List.length_map] at this
 induction t with
 | nil => intro A B k w _ hw h; exact h hw
 | node l v r ihl ihr =>
  intro A B k w hs hw h
  have hlen := hs.len
  rw [List.length_map] at hlen
  simp only [TP.cnt] at hlen
  have hgl := TP.hgt_le l
  have hgr := TP.hgt_le r
  refine ihl A _ (k + 1) w hs.left hw fun hw1 => ?_
  simp only [TP.scan] at h
  generalize hW1 : TP.scan l (k + 1) A.length w = w1 at hw1 h ⊢
  have hroot := hs.root
  have hA : (A ++ (TP.flat l (k + 1) ++ [(v, k)])).length = A.length + TP.cnt l + 1 := by simp [TP.flat_length]; omega
  have hH1 := seg_height xs hs.left hB
  have hH2 := seg_height xs hs.right hB
  rw [hA] at hH2
  refine Ev.step (fun n => by simp only [spec_l2Repair.l1]; rw [if_pos (by omega)]) ?_
  refine Ev.bind (range_ev xs _ _ _ (range_of hs) hn) ?_
  refine Ev.bind hH1 ?_
  refine Ev.congr (f := fun n => (spec_l2Height.f n xs ((A.length + TP.cnt l + 1 : Nat) : Int) ((A.length + TP.cnt l + 1 + TP.cnt r : Nat) : Int)).bind fun t186 => (if (wrap64 ((TP.hgt l : Int) - t186)) ≥ 2 then (spec_l2Repair.j2 n xs x2 (wi w1) ((A.length + TP.cnt l : Nat) : Int) (xs.length : Int) ((A.length + TP.cnt l : Nat) : Int) true) else (spec_l2Repair.j2 n xs x2 (wi w1) ((A.length + TP.cnt l : Nat) : Int) (xs.length : Int) ((A.length + TP.cnt l : Nat) : Int) (decide ((wrap64 ((TP.hgt l : Int) - t186)) ≤ (-2)))))) (fun n => by
   rw [w64 (x := ((A.length + TP.cnt l : Nat) : Int) + 1) (by omega), show ((A.length + TP.cnt l : Nat) : Int) + 1 = ((A.length + TP.cnt l + 1 : Nat) : Int) by omega, show ((A.length + (TP.cnt l + TP.cnt r + 1) : Nat) : Int) = ((A.length + TP.cnt l + 1 + TP.cnt r : Nat) : Int) by omega]) ?_
  refine Ev.bind hH2 ?_
  refine Ev.congr (f := fun n => spec_l2Repair.j2 n xs x2 (wi w1) ((A.length + TP.cnt l : Nat) : Int) (xs.length : Int) ((A.length + TP.cnt l : Nat) : Int) (decide (TP.hgt l + 1 < TP.hgt r ∨ TP.hgt r + 1 < TP.hgt l))) (fun n => by
   rw [w64 (by omega)]
   by_cases c : (TP.hgt l : Int) - (TP.hgt r : Int) ≥ 2
   ·rw [if_pos c, decide_eq_true (show TP.hgt l + 1 < TP.hgt r ∨ TP.hgt r + 1 < TP.hgt l by omega)]
   ·rw [if_neg c]
    congr 1
    exact decide_eq_decide.2 (by omega)) ?_
  -- the rest, with the worst one
  have rest : ∀ w2, WOK (xs.map gx) w2 → (WOK (xs.map gx) (TP.scan r (k + 1) (A.length + TP.cnt l + 1) w2) → Ev (fun n => spec_l2Repair.l1 n xs x2 (wi (TP.scan r (k + 1) (A.length + TP.cnt l + 1) w2)) (xs.length : Int) ((A.length + TP.cnt (.node l v r) : Nat) : Int)) R) →
    Ev (fun n => spec_l2Repair.l1 n xs x2 (wi w2) (xs.length : Int) ((A.length + TP.cnt l + 1 : Nat) : Int)) R := fun w2 hw2 h2 => by
   have := ihr (A ++ (TP.flat l (k + 1) ++ [(v, k)])) B (k + 1) w2 hs.right hw2
   rw [hA] at this
   refine this fun h3 => ?_
   have h4 := h2 h3
   rw [show A.length + TP.cnt (.node l v r) = A.length + TP.cnt l + 1 + TP.cnt r by simp only [TP.cnt]; omega] at h4
   exact h4
  have hok : WOK (xs.map gx) (some (A.length + TP.cnt l, k)) := fun q j e => by
   cases e; exact ⟨by rw [List.length_map]; omega, hroot⟩
  have nxt : wrap64 (((A.length + TP.cnt l : Nat) : Int) + 1) = ((A.length + TP.cnt l + 1 : Nat) : Int) := by rw [w64 (by omega)]; omega
  by_cases c : TP.hgt l + 1 < TP.hgt r ∨ TP.hgt r + 1 < TP.hgt l
  ·rw [decide_eq_true c]
   rw [if_pos c] at h
   cases w1 with
   | none =>
    refine Ev.step (fun n => by simp only [spec_l2Repair.j2]; rw [if_pos trivial, if_pos (by simp [wi]), nxt]) ?_
    exact rest (some (A.length + TP.cnt l, k)) hok h
   | some y =>
    obtain ⟨q, j⟩ := y
    obtain ⟨hq, hj⟩ := hw1 q j rfl
    rw [List.length_map] at hq
    simp only at h
    rw [show wi (some (q, j)) = (q : Int) from rfl]
    have a1 : ¬ ((q : Int) < 0) := Int.not_lt.2 (Int.natCast_nonneg q)
    have a2 : 0 ≤ ((A.length + TP.cnt l : Nat) : Int) := Int.natCast_nonneg _
    have a6 : A.length + TP.cnt l < xs.length := by clear h hw1 hH1 hH2 rest; omega
    have a3 : ((A.length + TP.cnt l : Nat) : Int) < (xs.length : Int) := Int.ofNat_lt.2 a6
    have a4 : 0 ≤ (q : Int) := Int.natCast_nonneg q
    have a5 : (q : Int) < (xs.length : Int) := Int.ofNat_lt.2 hq
    by_cases cj : j < k
    ·rw [if_pos cj] at h
     refine Ev.step (fun n => by simp only [spec_l2Repair.j2]; rw [if_pos trivial, if_neg a1, if_pos a2, if_pos a3, if_pos a4, if_pos a5, rd_lv xs _ a6, rd_lv xs q hq, hroot, hj, if_pos (show k > j from cj), nxt]) ?_
     exact rest (some (A.length + TP.cnt l, k)) hok h
    ·rw [if_neg cj] at h
     refine Ev.step (fun n => by simp only [spec_l2Repair.j2]; rw [if_pos trivial, if_neg a1, if_pos a2, if_pos a3, if_pos a4, if_pos a5, rd_lv xs _ a6, rd_lv xs q hq, hroot, hj, if_neg (show ¬ k > j from cj), nxt]) ?_
     exact rest (some (q, j)) hw1 h
  ·rw [decide_eq_false c]
   rw [if_neg c] at h
   refine Ev.step (fun n => by simp only [spec_l2Repair.j2]; rw [if_neg (by simp), nxt]) ?_
   exact rest w1 hw1 h
theorem seg_whole (s : Tree) : TP.Seg (TP.flat s 0) [] s 0 [] := ⟨by simp, fun x h => by simp at h, fun x h => by simp at h⟩
theorem Bd_flat (s : Tree) (h : TP.cnt s ≤ 20000) : Bd (TP.flat s 0) := by
 refine ⟨by rw [TP.flat_length]; exact h, fun j hj => ?_⟩
 rw [TP.flat_length] at hj
 have := TP.lv_flat_bound s 0 j hj
 have := TP.hgt_le s
 omega
theorem round_ev (xs : List S86) (s : Tree) (hs : xs.map gx = TP.flat s 0) (hc : TP.cnt s ≤ 20000) (x2 : Int) (_h0 : 0 ≤ x2) (hx : x2 ≤ 2 * (xs.length : Int) + 2) (R : List S86)
  (h : WOK (xs.map gx) (TP.scan s 0 0 none) → Ev (fun n => spec_l2Repair.l1 n xs x2 (wi (TP.scan s 0 0 none)) (xs.length : Int) (xs.length : Int)) R) : Ev (fun n => spec_l2Repair.l0 n xs x2) R := by
 have hn : xs.length = TP.cnt s := by have := congrArg List.length hs; rwa [List.length_map, TP.flat_length] at this
 have hB : Bd (xs.map gx) := by rw [hs]; exact Bd_flat s hc
 refine Ev.step (fun n => by simp only [spec_l2Repair.l0]; rw [w64 (x := 2 * (xs.length : Int)) (by omega), w64 (by omega), if_pos hx]) ?_
 have := scan_ev xs hB x2 R s [] [] 0 none (by rw [hs]; exact seg_whole s) (fun q j e => by cases e) (fun hw => by
  have := h hw
  simp only [List.length_nil, Nat.zero_add]
  rw [← hn]
  exact this)
 exact this
theorem repair_done (xs : List S86) (s : Tree) (hs : xs.map gx = TP.flat s 0) (hc : TP.cnt s ≤ 20000) (ha : TP.Avl s) (x2 : Int) (h0 : 0 ≤ x2) (hx : x2 ≤ 2 * (xs.length : Int) + 2) : Ev (fun n => spec_l2Repair.l0 n xs x2) xs := by
 refine round_ev xs s hs hc x2 h0 hx xs fun _ => ?_
 rw [TP.scan_avl s _ _ _ ha]
 rw [show wi none = -1 from rfl]
 exact ev_now fun n => by simp only [spec_l2Repair.l1]; rw [if_neg (by omega), if_pos (by omega)]
theorem repair_step (xs : List S86) (s s' : Tree) (hs : xs.map gx = TP.flat s 0) (hc : TP.cnt s ≤ 20000) (st : TP.Step s s') (x2 : Int) (h0 : 0 ≤ x2) (hx : x2 ≤ 2 * (xs.length : Int) + 2) :
  ∃ ys, ys.map gx = TP.flat s' 0 ∧ ∀ R, Ev (fun n => spec_l2Repair.l0 n ys (x2 + 1)) R → Ev (fun n => spec_l2Repair.l0 n xs x2) R := by
 obtain ⟨C, l, v, r, rfl, hC, hal, har, hoff, rfl⟩ := st
 have hseg0 := TP.Seg.of_plug C (.node l v r) (C.length : Int)
 have hits := TP.hits_plug C (.node l v r) (C.length : Int) (TP.cnt l) (C.length : Int) hC (TP.hits_here l v r _ hal har hoff)
 rw [Int.sub_self] at hseg0 hits
 rw [← hs] at hseg0
 have hscan := hits.2 0 none (fun q j e => by cases e)
 have hflat : ∀ t, TP.flat (TP.plug C t) 0 = TP.pre C (C.length : Int) ++ TP.flat t (C.length : Int) ++ TP.post C (C.length : Int) := fun t => by
  have := TP.flat_plug C t (C.length : Int)
  rwa [Int.sub_self] at this
 generalize TP.pre C (C.length : Int) = A at hseg0 hscan hflat
 generalize TP.post C (C.length : Int) = B at hseg0 hscan hflat
 generalize (C.length : Int) = k at hseg0 hscan hflat
 have hB : Bd (xs.map gx) := by rw [hs]; exact Bd_flat _ hc
 have hn : xs.length ≤ 20000 := by have := hB.1; rwa [List.length_map] at this
 have hlen := hseg0.len
 rw [List.length_map] at hlen
 simp only [TP.cnt] at hlen
 have hA : (A ++ (TP.flat l (k + 1) ++ [(v, k)])).length = A.length + TP.cnt l + 1 := by simp [TP.flat_length]; omega
 have hH1 := seg_height xs hseg0.left hB
 have hH2 := seg_height xs hseg0.right hB
 obtain ⟨c2, hc2⟩ := seg_child_any xs hseg0.right hn
 rw [hA] at hH2 hc2
 have hgl := TP.hgt_le l
 have hgr := TP.hgt_le r
 -- up to the turns
 have head : ∀ R, Ev (fun n => if (TP.hgt l : Int) > (TP.hgt r : Int) then ((spec_l2Child.f n xs (A.length : Int) ((A.length + TP.cnt l : Nat) : Int)).bind fun t194 => (spec_l2Repair.j3 n xs x2 ((A.length + TP.cnt l : Nat) : Int) (decide ((TP.hgt l : Int) > (TP.hgt r : Int))) t194)) else (spec_l2Repair.j3 n xs x2 ((A.length + TP.cnt l : Nat) : Int) (decide ((TP.hgt l : Int) > (TP.hgt r : Int))) c2)) R → Ev (fun n => spec_l2Repair.l0 n xs x2) R := fun R hR => by
  refine round_ev xs _ hs hc x2 h0 hx R fun _ => ?_
  rw [hscan, Nat.zero_add, show wi (some (A.length + TP.cnt l, k)) = ((A.length + TP.cnt l : Nat) : Int) from rfl]
  refine Ev.step (fun n => by simp only [spec_l2Repair.l1]; rw [if_neg (by omega), if_neg (by omega)]) ?_
  refine Ev.bind (range_ev xs _ _ _ (range_of hseg0) hn) ?_
  refine Ev.bind hH1 ?_
  refine Ev.congr (f := fun n => (spec_l2Height.f n xs ((A.length + TP.cnt l + 1 : Nat) : Int) ((A.length + TP.cnt l + 1 + TP.cnt r : Nat) : Int)).bind fun t192 => ((spec_l2Child.f n xs ((A.length + TP.cnt l + 1 : Nat) : Int) ((A.length + TP.cnt l + 1 + TP.cnt r : Nat) : Int)).bind fun t193 => (if (TP.hgt l : Int) > t192 then ((spec_l2Child.f n xs (A.length : Int) ((A.length + TP.cnt l : Nat) : Int)).bind fun t194 => (spec_l2Repair.j3 n xs x2 ((A.length + TP.cnt l : Nat) : Int) (decide ((TP.hgt l : Int) > t192)) t194)) else (spec_l2Repair.j3 n xs x2 ((A.length + TP.cnt l : Nat) : Int) (decide ((TP.hgt l : Int) > t192)) t193)))) (fun n => by
   rw [w64 (x := ((A.length + TP.cnt l : Nat) : Int) + 1) (by omega), show ((A.length + TP.cnt l : Nat) : Int) + 1 = ((A.length + TP.cnt l + 1 : Nat) : Int) by omega, show ((A.length + (TP.cnt l + TP.cnt r + 1) : Nat) : Int) = ((A.length + TP.cnt l + 1 + TP.cnt r : Nat) : Int) by omega]) ?_
  refine Ev.bind hH2 ?_
  exact Ev.bind hc2 hR
 have nx : wrap64 (x2 + 1) = x2 + 1 := w64 (by omega)
 rcases hoff with ho | ho
 ·-- the left side is too high
  cases l with
  | nil => simp [TP.hgt] at ho
  | node a x b =>
   have hsl := hseg0.left
   have hcn : TP.cnt (.node a x b) = TP.cnt a + TP.cnt b + 1 := rfl
   have hA2 : (A ++ (TP.flat a (k + 1 + 1) ++ [(x, k + 1)])).length = A.length + TP.cnt a + 1 := by simp [TP.flat_length]; omega
   have hHa := seg_height xs hsl.left hB
   have hHb := seg_height xs hsl.right hB
   rw [hA2] at hHb
   have hch := seg_child xs hsl hn
   have mid : ∀ R, Ev (fun n => spec_l2Repair.j4 n xs x2 ((A.length + TP.cnt (.node a x b) : Nat) : Int) true ((A.length + TP.cnt a : Nat) : Int) (TP.hgt a : Int) (TP.hgt b : Int)) R → Ev (fun n => spec_l2Repair.l0 n xs x2) R := fun R hR => by
    refine head R ?_
    refine Ev.congr (fun n => if_pos (by omega)) ?_
    rw [decide_eq_true (show (TP.hgt (.node a x b) : Int) > (TP.hgt r : Int) by omega)]
    refine Ev.bind hch ?_
    refine Ev.step (fun n => by rw [spec_l2Repair.j3]) ?_
    refine Ev.bind (range_ev xs _ _ _ (range_of hsl) hn) ?_
    refine Ev.congr (f := fun n => (spec_l2Height.f n xs ((A.length + TP.cnt a + 1 : Nat) : Int) ((A.length + TP.cnt a + 1 + TP.cnt b : Nat) : Int)).bind fun t197 => ((spec_l2Height.f n xs (A.length : Int) ((A.length + TP.cnt a : Nat) : Int)).bind fun t198 => (if true = true then (spec_l2Repair.j4 n xs x2 ((A.length + TP.cnt (.node a x b) : Nat) : Int) true ((A.length + TP.cnt a : Nat) : Int) t198 t197) else (spec_l2Repair.j4 n xs x2 ((A.length + TP.cnt (.node a x b) : Nat) : Int) true ((A.length + TP.cnt a : Nat) : Int) t197 t198)))) (fun n => by
     rw [w64 (x := ((A.length + TP.cnt a : Nat) : Int) + 1) (by omega), show ((A.length + TP.cnt a : Nat) : Int) + 1 = ((A.length + TP.cnt a + 1 : Nat) : Int) by omega, show ((A.length + (TP.cnt a + TP.cnt b + 1) : Nat) : Int) = ((A.length + TP.cnt a + 1 + TP.cnt b : Nat) : Int) by omega]) ?_
    refine Ev.bind hHb ?_
    refine Ev.bind hHa ?_
    exact Ev.congr (fun n => if_pos rfl) hR
   by_cases cab : TP.hgt a < TP.hgt b
   ·cases b with
    | nil => simp [TP.hgt] at cab
    | node p y q =>
     obtain ⟨ys, hy1, hy2⟩ := turnL_ev xs hsl hB
     have hys : ys.map gx = A ++ TP.flat (.node (.node (.node a x p) y q) v r) k ++ B := by rw [hy2]; simp [TP.flat]
     have hlys : ys.length = xs.length := by have := congrArg List.length hys; simp only [List.length_map, List.length_append, TP.flat_length, TP.cnt] at this hlen ⊢; omega
     have hseg2 : TP.Seg (ys.map gx) A (.node (.node (.node a x p) y q) v r) k B := ⟨hys, hseg0.pre, hseg0.post⟩
     have hB2 : Bd (ys.map gx) := by
      rw [hys, ← hflat]; refine Bd_flat _ ?_
      have := congrArg List.length (hflat (.node (.node (.node a x p) y q) v r))
      rw [TP.flat_length] at this
      simp only [List.length_append, TP.flat_length, TP.cnt] at this hlen
      omega
     obtain ⟨zs, hz1, hz2⟩ := turnR_ev ys hseg2 hB2
     refine ⟨zs, ?_, fun R hR => mid R ?_⟩
     ·rw [hz2, hflat]
      simp only [TP.repaired, TP.inL]
      rw [if_pos ho, if_pos cab]
      rfl
     ·refine Ev.step (fun n => by simp only [spec_l2Repair.j4]; rw [if_pos (by omega), nx]) ?_
      refine Ev.bind hy1 ?_
      rw [show A.length + TP.cnt (.node a x (.node p y q)) = A.length + TP.cnt (.node (.node a x p) y q) by simp only [TP.cnt]; omega]
      exact Ev.bind hz1 hR
   ·obtain ⟨zs, hz1, hz2⟩ := turnR_ev xs hseg0 hB
    refine ⟨zs, ?_, fun R hR => mid R ?_⟩
    ·rw [hz2, hflat]
     simp only [TP.repaired, TP.inL]
     rw [if_pos ho, if_neg cab]
     rfl
    ·refine Ev.step (fun n => by simp only [spec_l2Repair.j4]; rw [if_neg (by omega), nx]) ?_
     exact Ev.bind hz1 hR
 ·-- the right side is too high
  cases r with
  | nil => simp [TP.hgt] at ho
  | node a x b =>
   have hsr := hseg0.right
   have hcn : TP.cnt (.node a x b) = TP.cnt a + TP.cnt b + 1 := rfl
   have hA2 : ((A ++ (TP.flat l (k + 1) ++ [(v, k)])) ++ (TP.flat a (k + 1 + 1) ++ [(x, k + 1)])).length = A.length + TP.cnt l + 1 + TP.cnt a + 1 := by simp [TP.flat_length]; omega
   have hHa := seg_height xs hsr.left hB
   have hHb := seg_height xs hsr.right hB
   have hch := seg_child xs hsr hn
   have hrg := range_of hsr
   rw [hA] at hHa hch hrg
   rw [hA2] at hHb
   have mid : ∀ R, Ev (fun n => spec_l2Repair.j4 n xs x2 ((A.length + TP.cnt l : Nat) : Int) false ((A.length + TP.cnt l + 1 + TP.cnt a : Nat) : Int) (TP.hgt b : Int) (TP.hgt a : Int)) R → Ev (fun n => spec_l2Repair.l0 n xs x2) R := fun R hR => by
    refine round_ev xs _ hs hc x2 h0 hx R fun _ => ?_
    rw [hscan, Nat.zero_add, show wi (some (A.length + TP.cnt l, k)) = ((A.length + TP.cnt l : Nat) : Int) from rfl]
    refine Ev.step (fun n => by simp only [spec_l2Repair.l1]; rw [if_neg (by omega), if_neg (by omega)]) ?_
    refine Ev.bind (range_ev xs _ _ _ (range_of hseg0) hn) ?_
    refine Ev.bind hH1 ?_
    refine Ev.congr (f := fun n => (spec_l2Height.f n xs ((A.length + TP.cnt l + 1 : Nat) : Int) ((A.length + TP.cnt l + 1 + TP.cnt (.node a x b) : Nat) : Int)).bind fun t192 => ((spec_l2Child.f n xs ((A.length + TP.cnt l + 1 : Nat) : Int) ((A.length + TP.cnt l + 1 + TP.cnt (.node a x b) : Nat) : Int)).bind fun t193 => (if (TP.hgt l : Int) > t192 then ((spec_l2Child.f n xs (A.length : Int) ((A.length + TP.cnt l : Nat) : Int)).bind fun t194 => (spec_l2Repair.j3 n xs x2 ((A.length + TP.cnt l : Nat) : Int) (decide ((TP.hgt l : Int) > t192)) t194)) else (spec_l2Repair.j3 n xs x2 ((A.length + TP.cnt l : Nat) : Int) (decide ((TP.hgt l : Int) > t192)) t193)))) (fun n => by
     rw [w64 (x := ((A.length + TP.cnt l : Nat) : Int) + 1) (by omega), show ((A.length + TP.cnt l : Nat) : Int) + 1 = ((A.length + TP.cnt l + 1 : Nat) : Int) by omega, show ((A.length + (TP.cnt l + TP.cnt (.node a x b) + 1) : Nat) : Int) = ((A.length + TP.cnt l + 1 + TP.cnt (.node a x b) : Nat) : Int) by omega]) ?_
    refine Ev.bind hH2 ?_
    refine Ev.bind hch ?_
    refine Ev.congr (fun n => if_neg (by omega)) ?_
    rw [decide_eq_false (show ¬ ((TP.hgt l : Int) > (TP.hgt (.node a x b) : Int)) by omega)]
    refine Ev.step (fun n => by rw [spec_l2Repair.j3]) ?_
    refine Ev.bind (range_ev xs _ _ _ hrg hn) ?_
    refine Ev.congr (f := fun n => (spec_l2Height.f n xs ((A.length + TP.cnt l + 1 + TP.cnt a + 1 : Nat) : Int) ((A.length + TP.cnt l + 1 + TP.cnt a + 1 + TP.cnt b : Nat) : Int)).bind fun t197 => ((spec_l2Height.f n xs ((A.length + TP.cnt l + 1 : Nat) : Int) ((A.length + TP.cnt l + 1 + TP.cnt a : Nat) : Int)).bind fun t198 => (if false = true then (spec_l2Repair.j4 n xs x2 ((A.length + TP.cnt l : Nat) : Int) false ((A.length + TP.cnt l + 1 + TP.cnt a : Nat) : Int) t198 t197) else (spec_l2Repair.j4 n xs x2 ((A.length + TP.cnt l : Nat) : Int) false ((A.length + TP.cnt l + 1 + TP.cnt a : Nat) : Int) t197 t198)))) (fun n => by
     rw [w64 (x := ((A.length + TP.cnt l + 1 + TP.cnt a : Nat) : Int) + 1) (by omega), show ((A.length + TP.cnt l + 1 + TP.cnt a : Nat) : Int) + 1 = ((A.length + TP.cnt l + 1 + TP.cnt a + 1 : Nat) : Int) by omega, show ((A.length + TP.cnt l + 1 + (TP.cnt a + TP.cnt b + 1) : Nat) : Int) = ((A.length + TP.cnt l + 1 + TP.cnt a + 1 + TP.cnt b : Nat) : Int) by omega]) ?_
    refine Ev.bind hHb ?_
    refine Ev.bind hHa ?_
    exact Ev.congr (fun n => if_neg (by simp)) hR
   have hnl : ¬ TP.hgt l = TP.hgt (.node a x b) + 2 := by omega
   by_cases cab : TP.hgt b < TP.hgt a
   ·cases a with
    | nil => simp [TP.hgt] at cab
    | node p y q =>
     obtain ⟨ys, hy1, hy2⟩ := turnR_ev xs hsr hB
     rw [hA] at hy1
     have hys : ys.map gx = A ++ TP.flat (.node l v (.node p y (.node q x b))) k ++ B := by rw [hy2]; simp [TP.flat]
     have hseg2 : TP.Seg (ys.map gx) A (.node l v (.node p y (.node q x b))) k B := ⟨hys, hseg0.pre, hseg0.post⟩
     have hB2 : Bd (ys.map gx) := by
      rw [hys, ← hflat]; refine Bd_flat _ ?_
      have := congrArg List.length (hflat (.node l v (.node p y (.node q x b))))
      rw [TP.flat_length] at this
      simp only [List.length_append, TP.flat_length, TP.cnt] at this hlen
      omega
     obtain ⟨zs, hz1, hz2⟩ := turnL_ev ys hseg2 hB2
     refine ⟨zs, ?_, fun R hR => mid R ?_⟩
     ·rw [hz2, hflat]
      simp only [TP.repaired, TP.inR]
      rw [if_neg hnl, if_pos ho, if_pos cab]
      rfl
     ·refine Ev.step (fun n => by simp only [spec_l2Repair.j4]; rw [if_pos (by omega), nx]) ?_
      refine Ev.bind hy1 ?_
      exact Ev.bind hz1 hR
   ·obtain ⟨zs, hz1, hz2⟩ := turnL_ev xs hseg0 hB
    refine ⟨zs, ?_, fun R hR => mid R ?_⟩
    ·rw [hz2, hflat]
     simp only [TP.repaired, TP.inR]
     rw [if_neg hnl, if_pos ho, if_neg cab]
     rfl
    ·refine Ev.step (fun n => by simp only [spec_l2Repair.j4]; rw [if_neg (by omega), nx]) ?_
     exact Ev.bind hz1 hR
theorem repair_chain {m : Nat} {s e : Tree} (h : TP.Chain m s e) (ha : TP.Avl e) : ∀ (xs : List S86) (x2 : Int), xs.map gx = TP.flat s 0 → TP.cnt s ≤ 20000 → 0 ≤ x2 → x2 + m ≤ 2 * (xs.length : Int) + 2 → Ev (fun n => spec_l2Repair.l0 n xs x2) ((TP.flat e 0).map mkS) := by
 induction h with
 | refl s =>
  intro xs x2 hs hc h0 hx
  rw [← hs, List.map_map, show (mkS ∘ gx) = id from rfl, List.map_id]
  exact repair_done xs s hs hc ha x2 h0 (by omega)
 | step st _ ih =>
  intro xs x2 hs hc h0 hx
  obtain ⟨ys, h1, h2⟩ := repair_step xs _ _ hs hc st x2 h0 (by omega)
  have hl : ys.length = xs.length := by
   obtain ⟨C, l, v, r, rfl, hC, hal, har, hoff, rfl⟩ := st
   have e1 := congrArg List.length h1
   have e2 := congrArg List.length hs
   rw [List.length_map] at e1 e2
   have k1 := congrArg List.length (TP.flat_plug C (TP.repaired (.node l v r)) (C.length : Int))
   have k2 := congrArg List.length (TP.flat_plug C (.node l v r) (C.length : Int))
   rw [Int.sub_self] at k1 k2
   simp only [List.length_append, TP.flat_length] at k1 k2 e1 e2
   rw [repaired_cnt] at k1
   simp only [TP.cnt] at k2
   omega
  have hcy := congrArg List.length h1
  rw [List.length_map, TP.flat_length] at hcy
  have hcx := congrArg List.length hs
  rw [List.length_map, TP.flat_length] at hcx
  exact h2 _ (ih ha ys (x2 + 1) h1 (by omega) (by omega) (by omega))
theorem repair_ev {m : Nat} {s e : Tree} (h : TP.Chain m s e) (ha : TP.Avl e) (hm : m ≤ 2 * TP.cnt s + 2) (hc : TP.cnt s ≤ 20000) : Ev (fun n => spec_l2Repair.f n ((TP.flat s 0).map mkS)) ((TP.flat e 0).map mkS) := by
 unfold spec_l2Repair.f
 exact repair_chain h ha _ 0 (map_gx_mkS _) hc (Int.le_refl _) (by rw [List.length_map, TP.flat_length]; omega)
theorem rd_at (xs : List Int) (i : Nat) (h : i < xs.length) : rd xs (i : Int) = xs[i] := by
 unfold rd; simp [List.getD, h]
def mk (f : Int → Int) (k : Int) (n : Nat) : List Int := (List.range n).map fun j => f (k + (j : Nat))
theorem mk_length (f : Int → Int) (k : Int) (n : Nat) : (mk f k n).length = n := by simp [mk]
theorem mk_get (f : Int → Int) (k : Int) (n i : Nat) (h : i < n) : rd (mk f k n) (i : Int) = f (k + i) := by
 rw [rd_at _ _ (by simpa [mk] using h)]; simp [mk]

theorem markInt32S_loop (s : Int) (hs : 0 ≤ s ∧ s ≤ 9000000) (xs : List Int) (hn : xs.length ≤ 9000000) (d : Nat) : ∀ i : Nat, i + d = xs.length →
  Ev (fun k => laws_markInt32S.l0 k (mk (fun x => wrap32 (x)) s i ++ xs.drop i) (s + i) (i : Int)) (s + (xs.length : Int), mk (fun x => wrap32 (x)) s xs.length) := by
 induction d with
 | zero =>
  intro i hi
  obtain rfl : i = xs.length := by omega
  refine ev_now fun k => ?_
  simp only [laws_markInt32S.l0]
  rw [if_neg (by simp [mk_length])]
  simp
 | succ d ih =>
  intro i hi
  have hlt : i < xs.length := by omega
  refine Ev.step (f := fun k => laws_markInt32S.l0 k (mk (fun x => wrap32 (x)) s (i + 1) ++ xs.drop (i + 1)) (s + ((i + 1 : Nat) : Int)) ((i + 1 : Nat) : Int)) (fun k => ?_) (ih (i + 1) (by omega))
  simp only [laws_markInt32S.l0]
  rw [if_pos (by simp [mk_length]; omega), if_pos (by omega), w64 (by omega), w64 (by omega)]
  congr 1
  ·rw [Int.toNat_natCast, List.set_append_right _ _ (by simp [mk_length]), mk_length, Nat.sub_self, List.drop_eq_getElem_cons hlt, List.set_cons_zero]
   simp [mk, List.range_succ]
  ·omega
theorem markInt32S_from (s : Int) (hs : 0 ≤ s ∧ s ≤ 9000000) (xs : List Int) (hn : xs.length ≤ 9000000) : Ev (fun k => laws_markInt32S.f k xs s) (s + (xs.length : Int), mk (fun x => wrap32 (x)) s xs.length) := by
 unfold laws_markInt32S.f
 have h := markInt32S_loop s hs xs hn xs.length 0 (by omega)
 exact Ev.congr (fun k => by simp [mk]) h
theorem markInt32S_ev (xs : List Int) (hn : xs.length ≤ 9000000) : Ev (fun k => laws_markInt32S.f k xs 1) (1 + (xs.length : Int), mk (fun x => wrap32 (x)) 1 xs.length) := markInt32S_from 1 (by omega) xs hn

theorem heldInt32S_loop (s : Int) (hs : 0 ≤ s ∧ s ≤ 9000000) (n : Nat) (hn : n ≤ 9000000) (d : Nat) : ∀ i : Nat, i + d = n →
  Ev (fun k => laws_heldInt32S.l0 k (mk (fun x => wrap32 (x)) s n) (s + i) (i : Int)) (s + (n : Int)) := by
 induction d with
 | zero => intro i hi; refine ev_now fun k => ?_; simp only [laws_heldInt32S.l0]; rw [if_neg (by rw [mk_length]; omega)]; simp; omega
 | succ d ih =>
  intro i hi
  refine Ev.step (f := fun k => laws_heldInt32S.l0 k (mk (fun x => wrap32 (x)) s n) (s + ((i + 1 : Nat) : Int)) ((i + 1 : Nat) : Int)) (fun k => ?_) (ih (i + 1) (by omega))
  simp only [laws_heldInt32S.l0]
  rw [if_pos (by rw [mk_length]; omega), if_pos (by omega), w64 (by omega), w64 (by omega), if_pos (by rw [mk_get _ _ _ _ (by omega)])]
  congr 1
  omega
theorem heldInt32S_from (s : Int) (hs : 0 ≤ s ∧ s ≤ 9000000) (n : Nat) (hn : n ≤ 9000000) : Ev (fun k => laws_heldInt32S.f k (mk (fun x => wrap32 (x)) s n) s) (s + (n : Int)) := by
 unfold laws_heldInt32S.f
 exact Ev.congr (fun k => by simp) (heldInt32S_loop s hs n hn n 0 (by omega))
theorem heldInt32S_ev (n : Nat) (hn : n ≤ 9000000) : Ev (fun k => laws_heldInt32S.f k (mk (fun x => wrap32 (x)) 1 n) 1) (1 + (n : Int)) := heldInt32S_from 1 (by omega) n hn
/-! marks written into items, and read back -/
theorem rd_set_self (L : List S86) (i : Nat) (x : S86) (h : i < L.length) : rd_T86 (L.set i x) (i : Int) = x := by
 rw [rdI _ i (by rw [List.length_set]; exact h), List.getElem_set_self]
def mi (s : Int) (n : Nat) : List S86 := (List.range n).map fun (j : Nat) => ⟨⟨s + 4 * (j : Int), s + 4 * (j : Int) + 1, s + 4 * (j : Int) + 2⟩, s + 4 * (j : Int) + 3⟩
theorem mi_length (s : Int) (n : Nat) : (mi s n).length = n := by simp [mi]
theorem mi_get (s : Int) (n i : Nat) (h : i < n) : rd_T86 (mi s n) (i : Int) = ⟨⟨s + 4 * (i : Int), s + 4 * (i : Int) + 1, s + 4 * (i : Int) + 2⟩, s + 4 * (i : Int) + 3⟩ := by
 rw [rdI _ i (by rw [mi_length]; exact h)]; simp [mi]
theorem mi_succ (s : Int) (n : Nat) : mi s (n + 1) = mi s n ++ [⟨⟨s + 4 * (n : Int), s + 4 * (n : Int) + 1, s + 4 * (n : Int) + 2⟩, s + 4 * (n : Int) + 3⟩] := by
 simp [mi, List.range_succ]
theorem markItemS_loop (s : Int) (hs : 0 ≤ s ∧ s ≤ 9000000) (xs : List S86) (hn : xs.length ≤ 9000000) (d : Nat) : ∀ i : Nat, i + d = xs.length →
  Ev (fun k => laws_markItemS.l0 k (mi s i ++ xs.drop i) (s + 4 * (i : Int)) (i : Int)) (s + 4 * (xs.length : Int), mi s xs.length) := by
 induction d with
 | zero =>
  intro i hi
  obtain rfl : i = xs.length := by omega
  refine ev_now fun k => ?_
  simp only [laws_markItemS.l0]
  rw [if_neg (by simp [mi_length])]
  simp
 | succ d ih =>
  intro i hi
  have hlt : i < xs.length := by omega
  have hL : i < (mi s i ++ xs.drop i).length := by rw [List.length_append, mi_length, List.length_drop]; omega
  refine Ev.step (f := fun k => laws_markItemS.l0 k (mi s (i + 1) ++ xs.drop (i + 1)) (s + 4 * ((i + 1 : Nat) : Int)) ((i + 1 : Nat) : Int)) (fun k => ?_) (ih (i + 1) (by omega))
  simp only [laws_markItemS.l0]
  rw [if_pos (by omega), if_pos (by omega)]
  simp only [Option.bind_some, Int.toNat_natCast]
  rw [w64 (x := (i : Int) + 1) (by omega), w64 (x := s + 4 * (i : Int) + 1) (by omega), w64 (x := s + 4 * (i : Int) + 1 + 1) (by omega), w64 (x := s + 4 * (i : Int) + 1 + 1 + 1) (by omega), w64 (x := s + 4 * (i : Int) + 1 + 1 + 1 + 1) (by omega)]
  have hset : ∀ x : S86, (mi s i ++ xs.drop i).set i x = mi s i ++ (x :: xs.drop (i + 1)) := fun x => by
   rw [List.set_append_right _ _ (by rw [mi_length]; exact Nat.le_refl _), mi_length, Nat.sub_self, List.drop_eq_getElem_cons hlt, List.set_cons_zero]
  have hget : ∀ x : S86, rd_T86 (mi s i ++ (x :: xs.drop (i + 1))) (i : Int) = x := fun x => by
   rw [← hset x]; exact rd_set_self _ i x hL
  have hset2 : ∀ x y : S86, (mi s i ++ (x :: xs.drop (i + 1))).set i y = mi s i ++ (y :: xs.drop (i + 1)) := fun x y => by
   rw [List.set_append_right _ _ (by rw [mi_length]; exact Nat.le_refl _), mi_length, Nat.sub_self, List.set_cons_zero]
  rw [hset, hget, hset2, hget, hset2, hget, hset2, show s + 4 * (i : Int) + 1 + 1 = s + 4 * (i : Int) + 2 by omega, show s + 4 * (i : Int) + 2 + 1 = s + 4 * (i : Int) + 3 by omega, show s + 4 * (i : Int) + 3 + 1 = s + 4 * ((i + 1 : Nat) : Int) by omega, mi_succ, List.append_assoc, List.singleton_append]
  rfl
theorem markTree_from (s : Int) (hs : 0 ≤ s ∧ s ≤ 9000000) (xs : List S86) (hn : xs.length ≤ 9000000) : Ev (fun k => laws_markTree.f k xs s) (s + 4 * (xs.length : Int), mi s xs.length) := by
 unfold laws_markTree.f laws_markItemS.f
 refine Ev.bind (a := (s + 4 * (xs.length : Int), mi s xs.length)) ?_ (ev_const fun _ => rfl)
 have h := markItemS_loop s hs xs hn xs.length 0 (by omega)
 exact Ev.congr (fun k => by simp [mi]) h
theorem heldItemS_loop (s : Int) (hs : 0 ≤ s ∧ s ≤ 9000000) (n : Nat) (hn : n ≤ 9000000) (d : Nat) : ∀ i : Nat, i + d = n →
  Ev (fun k => laws_heldItemS.l0 k (mi s n) (s + 4 * (i : Int)) (i : Int)) (s + 4 * (n : Int)) := by
 induction d with
 | zero =>
  intro i hi
  refine ev_now fun k => ?_
  simp only [laws_heldItemS.l0]
  rw [if_neg (by rw [mi_length]; omega)]
  congr 1; omega
 | succ d ih =>
  intro i hi
  refine Ev.step (f := fun k => laws_heldItemS.l0 k (mi s n) (s + 4 * ((i + 1 : Nat) : Int)) ((i + 1 : Nat) : Int)) (fun k => ?_) (ih (i + 1) (by omega))
  simp only [laws_heldItemS.l0]
  rw [if_pos (by rw [mi_length]; omega), if_pos (by omega), mi_get s n i (by omega), w64 (x := (i : Int) + 1) (by omega), w64 (x := s + 4 * (i : Int) + 1) (by omega), w64 (x := s + 4 * (i : Int) + 1 + 1) (by omega), w64 (x := s + 4 * (i : Int) + 1 + 1 + 1) (by omega), w64 (x := s + 4 * (i : Int) + 1 + 1 + 1 + 1) (by omega)]
  dsimp only
  rw [if_pos rfl, if_pos rfl, if_pos (by omega), if_pos (by omega)]
  congr 1
  omega
theorem heldTree_from (s : Int) (hs : 0 ≤ s ∧ s ≤ 9000000) (n : Nat) (hn : n ≤ 9000000) : Ev (fun k => laws_heldTree.f k (mi s n) s) (s + 4 * (n : Int)) := by
 unfold laws_heldTree.f laws_heldItemS.f
 refine Ev.bind (a := s + 4 * (n : Int)) ?_ (ev_const fun _ => if_neg (by omega))
 exact Ev.congr (fun k => by simp) (heldItemS_loop s hs n hn n 0 (by omega))
theorem markPB_ev (T : List Int) (xs : List S86) (h1 : T.length ≤ 1048576) (h2 : xs.length ≤ 1048576) : Ev (fun k => laws_markPieceBuf.f k T xs 1) (1 + (T.length : Int) + 4 * (xs.length : Int), mk (fun x => wrap32 (x)) 1 T.length, mi (1 + (T.length : Int)) xs.length) := by
 unfold laws_markPieceBuf.f
 exact Ev.bind (markInt32S_ev T (by omega)) (Ev.bind (markTree_from _ (by omega) xs (by omega)) (ev_const fun _ => rfl))
theorem heldPB_ev (n m : Nat) (h1 : n ≤ 1048576) (h2 : m ≤ 1048576) : Ev (fun k => laws_heldPieceBuf.f k (mk (fun x => wrap32 (x)) 1 n) (mi (1 + (n : Int)) m) 1) (1 + (n : Int) + 4 * (m : Int)) := by
 unfold laws_heldPieceBuf.f
 refine Ev.bind (heldInt32S_ev n (by omega)) ?_
 refine Ev.congr (fun k => if_neg (by omega)) ?_
 refine Ev.bind (heldTree_from (1 + (n : Int)) (by omega) m (by omega)) ?_
 exact ev_const fun k => if_neg (by omega)
theorem copy_is (xs : List S86) (h : xs.length ≤ 2000000) : spec_l2Copy.f xs = some xs := by
 unfold spec_l2Copy.f
 simp only [Option.bind_some, List.nil_append]
 rw [if_pos (by simp only [List.length_nil]; omega)]
theorem lvl_is (t : Tree) (k : Nat) (hk : k ≤ TP.cnt t) (L : Int) (h0 : 0 ≤ L) (h1 : k < TP.cnt t → TP.lv (TP.flat t 0) k + 1 ≤ L) (h2 : 0 < k → TP.lv (TP.flat t 0) (k - 1) + 1 ≤ L)
  (h3 : L = 0 ∨ (k < TP.cnt t ∧ L = TP.lv (TP.flat t 0) k + 1) ∨ (0 < k ∧ L = TP.lv (TP.flat t 0) (k - 1) + 1)) : L = TP.lvl t k 0 := by
 have ge0 := TP.lvl_ge t k 0
 have getlv : ∀ j, j < TP.cnt t → ∃ x, (TP.flat t 0)[j]? = some x ∧ TP.lv (TP.flat t 0) j = x.2 := fun j hj => by
  have : j < (TP.flat t 0).length := by rw [TP.flat_length]; exact hj
  exact ⟨_, List.getElem?_eq_getElem this, by unfold TP.lv; rw [List.getElem?_eq_getElem this]⟩
 have le1 : L ≤ TP.lvl t k 0 := by
  rcases h3 with h | ⟨h, e⟩ | ⟨h, e⟩
  ·omega
  ·obtain ⟨x, hx, ex⟩ := getlv k h
   have := TP.lvl_right t k 0 x hx
   omega
  ·obtain ⟨x, hx, ex⟩ := getlv (k - 1) (by omega)
   have := TP.lvl_left t (k - 1) 0 x hx
   rw [show k - 1 + 1 = k by omega] at this
   omega
 have le2 : TP.lvl t k 0 ≤ L := by
  by_cases c : 0 < TP.cnt t
  ·rcases TP.lvl_some t k 0 hk c with ⟨x, hx, e⟩ | ⟨m, x, rfl, hx, e⟩
   ·have hlt : k < TP.cnt t := by have := (List.getElem?_eq_some_iff.1 hx).1; rwa [TP.flat_length] at this
    have := h1 hlt
    have e2 : TP.lv (TP.flat t 0) k = x.2 := by unfold TP.lv; rw [hx]
    omega
   ·have := h2 (by omega)
    have e2 : TP.lv (TP.flat t 0) (m + 1 - 1) = x.2 := by unfold TP.lv; rw [Nat.add_sub_cancel, hx]
    omega
  ·cases t with
   | nil => simp only [TP.lvl]; omega
   | node l v r => simp only [TP.cnt] at c; omega
 omega
theorem flat_lv0 (t : Tree) (j : Nat) (hj : j < TP.cnt t) (hc : TP.cnt t ≤ 20000) : 0 ≤ TP.lv (TP.flat t 0) j ∧ TP.lv (TP.flat t 0) j ≤ 20000 := by
 have := TP.lv_flat_bound t 0 j hj
 have := TP.hgt_le t
 omega
theorem insert_ev (t : Tree) (p : Pc) (rk : Nat) (hk : rk ≤ TP.cnt t) (ha : TP.Avl t) (hc : TP.cnt t ≤ 10000) : Ev (fun n => spec_l2Insert.f n ((TP.flat t 0).map mkS) (rk : Int) p.off p.len p.brk) ((TP.flat (TP.insert p t rk) 0).map mkS) := by
 have hlen : ((TP.flat t 0).map mkS).length = TP.cnt t := by rw [List.length_map, TP.flat_length]
 have hlv : ∀ j, j < TP.cnt t → (rd_T86 ((TP.flat t 0).map mkS) (j : Int)).f1 = TP.lv (TP.flat t 0) j := fun j hj => by
  rw [rd_lv _ j (by rw [hlen]; exact hj), map_gx_mkS]
 have hb := fun j hj => flat_lv0 t j hj (by omega)
 obtain ⟨m, hm, hch⟩ := TP.chain_ins p t [] rk (fun f h => by cases h) ha hk
 have hav := (TP.insert_ok p t rk ha hk).1
 simp only [TP.plug] at hch
 have hcp : TP.cnt (TP.pins p t rk) = TP.cnt t + 1 := by
  have := congrArg List.length (TP.flat_pins p t rk 0 hk)
  rw [TP.flat_length, List.length_append, List.length_cons, List.length_take, List.length_drop, TP.flat_length] at this
  omega
 have hh := TP.hgt_le t
 have hrep := repair_ev hch hav (by omega) (by omega)
 have body : ∀ level : Int, level = TP.lvl t rk 0 → ((TP.flat t 0).map mkS).take rk ++ [(⟨(⟨p.off, p.len, p.brk⟩ : S84), level⟩ : S86)] ++ ((TP.flat t 0).map mkS).drop rk = (TP.flat (TP.pins p t rk) 0).map mkS := fun level e => by
  rw [TP.flat_pins p t rk 0 hk, List.map_append, List.map_cons, List.map_take, List.map_drop, e]
  simp [mkS]
 generalize hX : (TP.flat t 0).map mkS = xs at hlen hlv body ⊢
 have fin : ∀ level : Int, level = TP.lvl t rk 0 → Ev (fun n => (spec_l2Copy.f (xs.take ((rk : Int)).toNat)).bind fun t229 => (if t229.length < 4398046511104 then ((some (t229 ++ [(⟨(⟨p.off, p.len, p.brk⟩ : S84), level⟩ : S86)] : List (S86))).bind fun y232 => ((some (xs.drop ((rk : Int)).toNat : List (S86))).bind fun y235 => (if y232.length + y235.length < 4398046511104 then ((spec_l2Repair.f n (y232 ++ y235)).bind fun t242 => (some t242)) else (none)))) else (none))) ((TP.flat (TP.insert p t rk) 0).map mkS) := fun level e => by
  simp only [Int.toNat_natCast]
  refine Ev.bind (ev_const fun _ => copy_is (xs.take rk) (by rw [List.length_take]; omega)) ?_
  refine Ev.congr (fun n => by rw [if_pos (by rw [List.length_take]; omega)]) ?_
  refine Ev.bind (ev_const fun _ => rfl) ?_
  refine Ev.bind (ev_const fun _ => rfl) ?_
  refine Ev.congr (fun n => by rw [if_pos (by simp only [List.length_append, List.length_take, List.length_drop, List.length_cons, List.length_nil]; omega), body level e]) ?_
  exact Ev.bind hrep (ev_const fun _ => rfl)
 -- the second look, at the item behind
 have j1 : ∀ x7 : Int, 0 ≤ x7 → x7 ≤ 30000 → (0 < rk → TP.lv (TP.flat t 0) (rk - 1) + 1 ≤ x7) → (x7 = 0 ∨ (0 < rk ∧ x7 = TP.lv (TP.flat t 0) (rk - 1) + 1)) → Ev (fun n => spec_l2Insert.j1 n xs (rk : Int) x7 p.off p.len p.brk) ((TP.flat (TP.insert p t rk) 0).map mkS) := fun x7 a1 a2 a3 a4 => by
  by_cases c : rk < TP.cnt t
  ·have hbk := hb rk c
   by_cases c2 : TP.lv (TP.flat t 0) rk + 1 > x7
   ·refine Ev.step (fun n => by simp only [spec_l2Insert.j1]; rw [if_pos (by omega), if_pos (by omega), hlv rk c, w64 (by omega), decide_eq_true c2]) ?_
    refine Ev.step (fun n => by simp only [spec_l2Insert.j2]; rw [if_pos trivial, if_pos (by omega), if_pos (by omega), if_pos (by omega), hlv rk c, w64 (by omega)]) ?_
    exact fin _ (lvl_is t rk hk _ (by omega) (fun _ => Int.le_refl _) (fun h => by have := a3 h; omega) (.inr (.inl ⟨c, rfl⟩)))
   ·refine Ev.step (fun n => by simp only [spec_l2Insert.j1]; rw [if_pos (by omega), if_pos (by omega), hlv rk c, w64 (by omega), decide_eq_false c2]) ?_
    refine Ev.step (fun n => by simp only [spec_l2Insert.j2]; rw [if_neg (by simp), if_pos (by omega), if_pos (by omega)]) ?_
    exact fin _ (lvl_is t rk hk _ a1 (fun _ => by omega) a3 (by rcases a4 with h | h; exact .inl h; exact .inr (.inr h)))
  ·refine Ev.step (fun n => by simp only [spec_l2Insert.j1]; rw [if_neg (by omega)]) ?_
   refine Ev.step (fun n => by simp only [spec_l2Insert.j2]; rw [if_neg (by simp), if_pos (by omega), if_pos (by omega)]) ?_
   exact fin _ (lvl_is t rk hk _ a1 (fun h => absurd h c) a3 (by rcases a4 with h | h; exact .inl h; exact .inr (.inr h)))
 unfold spec_l2Insert.f
 by_cases c : 0 < rk
 ·have hb1 := hb (rk - 1) (by omega)
  have hlv1 := hlv (rk - 1) (by omega)
  rw [show ((rk - 1 : Nat) : Int) = (rk : Int) - 1 by omega] at hlv1
  refine Ev.congr (fun n => by rw [if_pos (by omega), w64 (x := (rk : Int) - 1) (by omega), if_pos (by omega), if_pos (by omega), hlv1, w64 (by omega), decide_eq_true (by omega)]) ?_
  refine Ev.step (fun n => by simp only [spec_l2Insert.j0]; rw [if_pos trivial, w64 (x := (rk : Int) - 1) (by omega), if_pos (by omega), if_pos (by omega), hlv1, w64 (by omega)]) ?_
  exact j1 _ (by omega) (by omega) (fun _ => Int.le_refl _) (.inr ⟨c, rfl⟩)
 ·refine Ev.congr (fun n => if_neg (by omega)) ?_
  refine Ev.step (fun n => by simp only [spec_l2Insert.j0]; rw [if_neg (by simp)]) ?_
  exact j1 0 (by omega) (by omega) (fun h => absurd h c) (.inl rfl)
theorem flat_of_grown {xs : List S86} {t : Tree} (h : grownV (xs.map cv) = some t) : xs = (TP.flat t 0).map mkS := by
 refine of_gx ?_
 rw [(grownV_toL h).2.2.1, List.map_map]; rfl
-- theorem toIt_cb (L : List (Pc × Int)) : (L.map toIt).map cb = L.map mkS := by rw [List.map_map]; rfl
/-! the specification's rank, piece and cut of a text of pieces -/
def pcS (x : S86) : Pc := ⟨x.f0.f0, x.f0.f1, x.f0.f2⟩
theorem lenP_drop (L : List Pc) (i : Nat) (h : i < L.length) : lenP (L.drop i) = (L[i]).len + lenP (L.drop (i + 1)) := by rw [List.drop_eq_getElem_cons h]; rfl
theorem rank_loop (xs : List S86) (off : Int) (hn : xs.length ≤ 20000) (hp : ∀ p ∈ xs.map pcS, 0 ≤ p.len) (d : Nat) : ∀ (i : Nat) (a : Int), i + d = xs.length → 0 ≤ a → a + lenP ((xs.map pcS).drop i) ≤ 1000000000 →
  Ev (fun k => spec_l4Rank.l0 k xs off a (xs.length : Int) (i : Int)) ((i + rankP ((xs.map pcS).drop i) a off : Nat) : Int) := by
 induction d with
 | zero =>
  intro i a hi h0 h1
  refine ev_now fun k => ?_
  simp only [spec_l4Rank.l0]
  rw [if_neg (by omega), List.drop_eq_nil_of_le (by rw [List.length_map]; omega)]
  simp only [rankP]
  congr 1; omega
 | succ d ih =>
  intro i a hi h0 h1
  have hlt : i < xs.length := by omega
  have hlm : i < (xs.map pcS).length := by rw [List.length_map]; exact hlt
  have hnn : 0 ≤ lenP ((xs.map pcS).drop (i + 1)) := by
   have : ∀ L : List Pc, (∀ p ∈ L, 0 ≤ p.len) → 0 ≤ lenP L := fun L => by
    induction L with
    | nil => intro _; exact Int.le_refl _
    | cons y L ih => intro h; have := h y (by simp); have := ih (fun p hp => h p (by simp [hp])); simp only [lenP]; omega
   exact this _ fun p hq => hp p (List.mem_of_mem_drop hq)
  have e1 := lenP_drop (xs.map pcS) i hlm
  have e2 : (xs.map pcS)[i] = pcS xs[i] := by simp
  rw [e2] at e1
  have e3 : (xs.map pcS).drop i = pcS xs[i] :: (xs.map pcS).drop (i + 1) := by rw [List.drop_eq_getElem_cons hlm, e2]
  have e4 : (pcS xs[i]).len = xs[i].f0.f1 := rfl
  have hp0 := hp (pcS xs[i]) (by rw [← e2]; exact List.getElem_mem hlm)
  by_cases c : off ≤ a
  ·refine ev_now fun k => ?_
   simp only [spec_l4Rank.l0]
   rw [if_pos (by omega), if_pos (by omega), e3]
   simp only [rankP]
   rw [if_pos c, Nat.add_zero]
  ·refine Ev.step (f := fun k => spec_l4Rank.l0 k xs off (a + (pcS xs[i]).len) (xs.length : Int) ((i + 1 : Nat) : Int)) (fun k => ?_) (Ev.congr (g := fun k => spec_l4Rank.l0 k xs off (a + (pcS xs[i]).len) (xs.length : Int) ((i + 1 : Nat) : Int)) (fun _ => rfl) ?_)
   ·simp only [spec_l4Rank.l0]
    rw [if_pos (by omega), if_neg (by omega), if_pos (by omega), if_pos (by omega), rdI xs i hlt, w64 (by omega), w64 (by omega), e4]
    rfl
   ·have h := ih (i + 1) (a + (pcS xs[i]).len) (by omega) (by omega) (by omega)
    rw [e3]
    simp only [rankP]
    rw [if_neg c]
    rw [show i + (rankP ((xs.map pcS).drop (i + 1)) (a + (pcS xs[i]).len) off + 1) = i + 1 + rankP ((xs.map pcS).drop (i + 1)) (a + (pcS xs[i]).len) off by omega]
    exact h
theorem pcS_mkS (L : List (Pc × Int)) : (L.map mkS).map pcS = L.map Prod.fst := by rw [List.map_map]; rfl
theorem pcS_flat (t : Tree) : ((TP.flat t 0).map mkS).map pcS = TP.toL t := by rw [pcS_mkS, TP.flat_toL]
theorem rank_ev (t : Tree) (off : Int) (hc : TP.cnt t ≤ 20000) (hp : ∀ p ∈ TP.toL t, 1 ≤ p.len) (hs : rl t ≤ 100000) : Ev (fun k => spec_l4Rank.f k ((TP.flat t 0).map mkS) off) ((rankP (TP.toL t) 0 off : Nat) : Int) := by
 have h := rank_loop ((TP.flat t 0).map mkS) off (by rw [List.length_map, TP.flat_length]; omega) (by rw [pcS_flat]; exact fun p hq => by have := hp p hq; omega) ((TP.flat t 0).map mkS).length 0 0 (by omega) (Int.le_refl _) (by rw [pcS_flat, List.drop_zero, lenP_toL]; omega)
 rw [pcS_flat, List.drop_zero, Nat.zero_add] at h
 exact h
theorem total_loop2 (xs : List S86) (hn : xs.length ≤ 20000) (hp : ∀ p ∈ xs.map pcS, 0 ≤ p.len) (d : Nat) : ∀ (i : Nat) (a : Int), i + d = xs.length → 0 ≤ a → a + lenP ((xs.map pcS).drop i) ≤ 1000000000 →
  Ev (fun k => spec_l2Total.l0 k a xs (xs.length : Int) (i : Int)) (a + lenP ((xs.map pcS).drop i)) := by
 induction d with
 | zero =>
  intro i a hi h0 h1
  refine ev_now fun k => ?_
  simp only [spec_l2Total.l0]
  rw [if_neg (by omega), List.drop_eq_nil_of_le (by rw [List.length_map]; omega)]
  simp only [lenP]
  congr 1; omega
 | succ d ih =>
  intro i a hi h0 h1
  have hlt : i < xs.length := by omega
  have hlm : i < (xs.map pcS).length := by rw [List.length_map]; exact hlt
  have hnn : 0 ≤ lenP ((xs.map pcS).drop (i + 1)) := by
   have : ∀ L : List Pc, (∀ p ∈ L, 0 ≤ p.len) → 0 ≤ lenP L := fun L => by
    induction L with
    | nil => intro _; exact Int.le_refl _
    | cons y L ih => intro h; have := h y (by simp); have := ih (fun p hp => h p (by simp [hp])); simp only [lenP]; omega
   exact this _ fun p hq => hp p (List.mem_of_mem_drop hq)
  have e1 := lenP_drop (xs.map pcS) i hlm
  have e2 : (xs.map pcS)[i] = pcS xs[i] := by simp
  rw [e2] at e1
  have e4 : (pcS xs[i]).len = xs[i].f0.f1 := rfl
  have hp0 := hp (pcS xs[i]) (by rw [← e2]; exact List.getElem_mem hlm)
  rw [e1, ← Int.add_assoc]
  refine Ev.step (f := fun k => spec_l2Total.l0 k (a + (pcS xs[i]).len) xs (xs.length : Int) ((i + 1 : Nat) : Int)) (fun k => ?_) (ih (i + 1) (a + (pcS xs[i]).len) (by omega) (by omega) (by omega))
  simp only [spec_l2Total.l0]
  rw [if_pos (by omega), if_pos (by omega), if_pos (by omega), rdI xs i hlt, w64 (by omega), w64 (by omega), e4]
  rfl
theorem take_flat (t : Tree) (r : Nat) : (((TP.flat t 0).map mkS).take r).map pcS = (TP.toL t).take r := by rw [List.map_take, pcS_flat]
theorem lenP_take_le (L : List Pc) (h : ∀ p ∈ L, 1 ≤ p.len) (r : Nat) : 0 ≤ lenP (L.take r) ∧ lenP (L.take r) ≤ lenP L := by
 have h1 := lenP_nn (L.take r) (fun p hp => h p (List.mem_of_mem_take hp))
 have h2 := lenP_nn (L.drop r) (fun p hp => h p (List.mem_of_mem_drop hp))
 have h3 : lenP L = lenP (L.take r) + lenP (L.drop r) := by rw [← lenP_app, List.take_append_drop]
 omega
theorem total_take (t : Tree) (r : Nat) (hc : TP.cnt t ≤ 20000) (hp : ∀ p ∈ TP.toL t, 1 ≤ p.len) (hs : rl t ≤ 100000) : Ev (fun k => spec_l2Total.f k (((TP.flat t 0).map mkS).take r)) (lenP ((TP.toL t).take r)) := by
 have hb := lenP_take_le (TP.toL t) hp r
 rw [lenP_toL] at hb
 have h := total_loop2 (((TP.flat t 0).map mkS).take r) (by rw [List.length_take, List.length_map, TP.flat_length]; omega) (by rw [take_flat]; exact fun p hq => by have := hp p (List.mem_of_mem_take hq); omega) (((TP.flat t 0).map mkS).take r).length 0 0 (by omega) (Int.le_refl _) (by rw [take_flat, List.drop_zero]; omega)
 rw [take_flat, List.drop_zero, Int.zero_add] at h
 unfold spec_l2Total.f
 exact h
theorem piece_ev (T : List Int) (o l : Int) (h0 : 0 ≤ o) (h1 : 0 ≤ l) (h2 : o + l ≤ (T.length : Int)) (hT : T.length ≤ 1000000) : Ev (fun k => spec_l4Piece.f k T o l) ((mkP T o l).off, (mkP T o l).len, (mkP T o l).brk) := by
 unfold spec_l4Piece.f
 have w : wrap64 (o + l) = o + l := w64 (by omega)
 refine Ev.congr (fun k => by rw [w, if_pos h0, if_pos (by omega), if_pos h2]) ?_
 refine Ev.bind (nl_ev ((T.take (o + l).toNat).drop o.toNat) (by rw [List.length_drop, List.length_take]; omega)) ?_
 exact ev_const fun _ => rfl
theorem rd_flat (t : Tree) (j : Nat) (x : Pc) (hx : (TP.toL t)[j]? = some x) : ∃ lv : Int, (TP.flat t 0)[j]? = some (x, lv) ∧ (rd_T86 ((TP.flat t 0).map mkS) (j : Int)).f0.f0 = x.off ∧ (rd_T86 ((TP.flat t 0).map mkS) (j : Int)).f0.f1 = x.len ∧ (rd_T86 ((TP.flat t 0).map mkS) (j : Int)).f1 = lv := by
 have hj := (List.getElem?_eq_some_iff.1 hx).1
 rw [TP.toL_length, ← TP.flat_length t 0] at hj
 have e := TP.flat_toL t 0
 rw [← e, List.getElem?_map] at hx
 obtain ⟨y, hy, rfl⟩ := Option.map_eq_some_iff.1 hx
 have e2 : rd_T86 ((TP.flat t 0).map mkS) (j : Int) = mkS y := by
  rw [rdI _ j (by rw [List.length_map]; exact hj)]
  simp only [List.getElem_map]
  rw [(List.getElem?_eq_some_iff.1 hy).2]
 refine ⟨y.2, hy, ?_⟩
 rw [e2]
 exact ⟨rfl, rfl, rfl⟩
theorem set_flat (t : Tree) (j : Nat) (x v : Pc) (lv : Int) (hx : (TP.flat t 0)[j]? = some (x, lv)) : ((TP.flat t 0).map mkS).set j (mkS (v, lv)) = (TP.flat (setT v t j) 0).map mkS := by
 have hj := (List.getElem?_eq_some_iff.1 hx).1
 have hj' : j < TP.cnt t := by rw [← TP.flat_length t 0]; exact hj
 obtain ⟨y, h1, h2⟩ := setT_flat v t j 0 hj'
 rw [hx] at h1
 cases h1
 rw [h2, List.set_eq_take_append_cons_drop, if_pos (by rw [List.length_map]; exact hj)]
 simp only [List.map_append, List.map_cons, List.map_take, List.map_drop]
theorem rank_cut (T : List Int) (t : Tree) (off : Int) (ok : TxtOk T t) (ha : TP.Avl t) (h0 : 0 ≤ off) (h1 : off ≤ rl t) : rankP (TP.toL (cutT T t off).1) 0 off = (cutT T t off).2 := by
 have C := cutT_ok T t off ok ha h0 h1
 exact rankP_edge _ C.ok.pos _ off (by rw [TP.toL_length]; exact C.rank) C.edge
theorem cut_ev (T : List Int) (t : Tree) (off : Int) (ok : TxtOk T t) (ha : TP.Avl t) (hc : TP.cnt t ≤ 9500) (h0 : 0 ≤ off) (h1 : off ≤ rl t) : Ev (fun k => spec_l4Cut.f k T ((TP.flat t 0).map mkS) off) ((TP.flat (cutT T t off).1 0).map mkS) := by
 unfold spec_l4Cut.f
 have pos := ok.pos
 have hs := ok.sum
 have hlen : (TP.toL t).length = TP.cnt t := TP.toL_length t
 have hfl : ((TP.flat t 0).map mkS).length = TP.cnt t := by rw [List.length_map, TP.flat_length]
 refine Ev.bind (rank_ev t off (by omega) pos (by omega)) ?_
 have edge : ∀ r : Nat, r ≤ TP.cnt t → lenP ((TP.toL t).take r) = off → rankP (TP.toL t) 0 off = r := fun r hr e => rankP_edge _ pos r off (by omega) e
 by_cases c : off = rl t
 ·rw [cut_end T t off c]
  have hl : lenP ((TP.toL t).take (TP.cnt t)) = off := by rw [← hlen, List.take_length, lenP_toL, c]
  rw [edge _ (Nat.le_refl _) hl]
  refine Ev.congr (fun k => by rw [if_pos (by omega), if_pos (by omega), Int.toNat_natCast]) ?_
  refine Ev.bind (total_take t (TP.cnt t) (by omega) pos (by omega)) ?_
  exact ev_const fun k => by rw [if_pos hl]
 obtain ⟨x, hx, k0, k1, hsk⟩ := seek_in (TP.toL t) pos off h0 (by rw [lenP_toL]; omega)
 have hj := (List.getElem?_eq_some_iff.1 hx).1
 by_cases ck : (seek (TP.toL t) off).2 = 0
 ·rw [cut_edge T t off c ck]
  have hl : lenP ((TP.toL t).take (seek (TP.toL t) off).1) = off := by omega
  rw [edge _ (by omega) hl]
  refine Ev.congr (fun k => by rw [if_pos (by omega), if_pos (by omega), Int.toNat_natCast]) ?_
  refine Ev.bind (total_take t _ (by omega) pos (by omega)) ?_
  exact ev_const fun k => by rw [if_pos hl]
 rw [cut_mid_ T t off x c ck hx]
 generalize (seek (TP.toL t) off).1 = j at hx hsk hj
 generalize (seek (TP.toL t) off).2 = k at k0 k1 hsk ck
 have hin := ok.ins x (List.mem_of_getElem? hx)
 obtain ⟨i1, i2, i3, i4⟩ := hin
 have hTl := ok.len
 have m2 : lenP ((TP.toL t).take (j + 1)) = lenP ((TP.toL t).take j) + x.len := by
  rw [List.take_succ_eq_append_getElem hj, lenP_app, (List.getElem?_eq_some_iff.1 hx).2]
  simp [lenP]
 rw [rankP_succ (TP.toL t) pos j 0 off hj (by omega) (by omega)]
 obtain ⟨lv, f1, f2, f3, f4⟩ := rd_flat t j x hx
 have ew : wrap64 (((j + 1 : Nat) : Int) - 1) = (j : Int) := by unfold wrap64; omega
 have er : wrap64 (lenP ((TP.toL t).take (j + 1)) - off) = x.len - k := by rw [w64 (by have := lenP_take_le (TP.toL t) pos (j + 1); rw [lenP_toL] at this; omega)]; omega
 refine Ev.congr (fun k => by rw [if_pos (by omega), if_pos (by omega), Int.toNat_natCast]) ?_
 refine Ev.bind (total_take t (j + 1) (by omega) pos (by omega)) ?_
 refine Ev.congr (fun _ => if_neg (by omega)) ?_
 refine Ev.bind (ev_const fun _ => copy_is ((TP.flat t 0).map mkS) (by omega)) ?_
 refine Ev.congr (fun _ => by rw [ew, if_pos (by omega), if_pos (by omega), f2, f3, f4, er, Int.toNat_natCast]) ?_
 have e1 : wrap64 (x.len - (x.len - k)) = k := by rw [w64 (by omega)]; omega
 have e2 : wrap64 (wrap64 (x.off + x.len) - (x.len - k)) = x.off + k := by rw [w64 (x := x.off + x.len) (by omega), w64 (by omega)]; omega
 rw [e1, e2]
 refine Ev.bind (piece_ev T x.off k i1 k0 (by omega) hTl) ?_
 refine Ev.bind (piece_ev T (x.off + k) (x.len - k) (by omega) (by omega) (by omega) hTl) ?_
 have sf := set_flat t j x (mkP T x.off k) lv f1
 simp only [mkS] at sf
 simp only []
 have hav := (setT_shape (mkP T x.off k) t j).2 ha
 have hi := insert_ev (setT (mkP T x.off k) t j) (mkP T (x.off + k) (x.len - k)) (j + 1) (by rw [setT_cnt]; omega) hav (by rw [setT_cnt]; omega)
 refine Ev.bind (Ev.congr (fun _ => by rw [sf]) hi) (ev_const fun _ => rfl)
theorem toIt_cb (L : List (Pc × Int)) : (L.map toIt).map cb = L.map mkS := by rw [List.map_map]; rfl
theorem goes_some {T : List Int} {t : Tree} {off : Int} {j : Nat} {x : Pc} (ok : TxtOk T t) (h1 : off ≤ rl t) (h : goesOn T t off = some (j, x)) : (TP.toL t)[j]? = some x ∧ j < TP.cnt t ∧ rankP (TP.toL t) 0 off = j + 1 ∧ lenP ((TP.toL t).take (j + 1)) = off ∧ x.off + x.len = (T.length : Int) ∧ 0 < off := by
 unfold goesOn at h
 split at h
 ·rename_i c
  obtain ⟨y, hy, k0, k1, hsk⟩ := seek_in (TP.toL t) ok.pos (off - 1) (by omega) (by rw [lenP_toL]; omega)
  rw [hy] at h
  simp only at h
  split at h
  ·rename_i c2
   simp only [Option.some.injEq, Prod.mk.injEq] at h
   obtain ⟨rfl, rfl⟩ := h
   have hj := (List.getElem?_eq_some_iff.1 hy).1
   have m2 : lenP ((TP.toL t).take ((seek (TP.toL t) (off - 1)).1 + 1)) = lenP ((TP.toL t).take (seek (TP.toL t) (off - 1)).1) + y.len := by
    rw [List.take_succ_eq_append_getElem hj, lenP_app, (List.getElem?_eq_some_iff.1 hy).2]
    simp [lenP]
   refine ⟨hy, by rw [← TP.toL_length]; exact hj, ?_, by omega, c2.2, c⟩
   exact rankP_succ _ ok.pos _ 0 off hj (by omega) (by omega)
  ·cases h
 ·cases h
theorem goes_none {T : List Int} {t : Tree} {off : Int} (ok : TxtOk T t) (h0 : 0 ≤ off) (h1 : off ≤ rl t) (h : goesOn T t off = none) : (off = 0 ∧ rankP (TP.toL t) 0 off = 0) ∨ ∃ j x, (TP.toL t)[j]? = some x ∧ j < TP.cnt t ∧ rankP (TP.toL t) 0 off = j + 1 ∧ (lenP ((TP.toL t).take (j + 1)) = off → x.off + x.len ≠ (T.length : Int)) := by
 by_cases c : 0 < off
 ·right
  obtain ⟨y, hy, k0, k1, hsk⟩ := seek_in (TP.toL t) ok.pos (off - 1) (by omega) (by rw [lenP_toL]; omega)
  have hj := (List.getElem?_eq_some_iff.1 hy).1
  have m2 : lenP ((TP.toL t).take ((seek (TP.toL t) (off - 1)).1 + 1)) = lenP ((TP.toL t).take (seek (TP.toL t) (off - 1)).1) + y.len := by
   rw [List.take_succ_eq_append_getElem hj, lenP_app, (List.getElem?_eq_some_iff.1 hy).2]
   simp [lenP]
  refine ⟨_, y, hy, by rw [← TP.toL_length]; exact hj, rankP_succ _ ok.pos _ 0 off hj (by omega) (by omega), fun e q => ?_⟩
  unfold goesOn at h
  rw [if_pos c, hy] at h
  simp only at h
  rw [if_pos ⟨by omega, q⟩] at h
  cases h
 ·left
  exact ⟨by omega, rankP_zero _ _ _ (by omega)⟩
theorem j1_ins (T X : List Int) (t : Tree) (off : Int) (ok : TxtOk T t) (ha : TP.Avl t) (hc : TP.cnt t ≤ 8192) (h0 : 0 ≤ off) (h1 : off ≤ rl t) (hl : (T ++ X).length ≤ 220000) (hg : goesOn T t off = none) : Ev (fun k => spec_l4PieceInsert.j1 k off X (T.length : Int) (T ++ X) ((TP.flat t 0).map mkS)) (T ++ X, (TP.flat (pinsT T X t off) 0).map mkS) := by
 have okl := ok.longer (X := X) (by omega)
 have C := cutT_ok (T ++ X) t off okl ha h0 h1
 have hl' := hl
 rw [List.length_append] at hl'
 refine Ev.step (fun k => by rw [spec_l4PieceInsert.j1]) ?_
 refine Ev.bind (cut_ev (T ++ X) t off okl ha (by omega) h0 h1) ?_
 have hcc := C.cnt
 have hsum := C.sum
 have hs := ok.sum
 refine Ev.bind (rank_ev (cutT (T ++ X) t off).1 off (by omega) C.ok.pos (by omega)) ?_
 rw [rank_cut (T ++ X) t off okl ha h0 h1]
 refine Ev.bind (piece_ev (T ++ X) (T.length : Int) (X.length : Int) (by omega) (by omega) (by rw [List.length_append]; omega) (by omega)) ?_
 refine Ev.bind (insert_ev (cutT (T ++ X) t off).1 (mkP (T ++ X) (T.length : Int) (X.length : Int)) (cutT (T ++ X) t off).2 C.rank C.avl (by omega)) ?_
 exact ev_const fun _ => by unfold pinsT; rw [hg]
theorem l4ins_ev (T X : List Int) (t : Tree) (off : Int) (ok : TxtOk T t) (ha : TP.Avl t) (hc : TP.cnt t ≤ 8192) (h0 : 0 ≤ off) (h1 : off ≤ rl t) (hl : (T ++ X).length ≤ 220000) : Ev (fun k => spec_l4PieceInsert.f k T ((TP.flat t 0).map mkS) off X) (if X.length = 0 then (T, (TP.flat t 0).map mkS) else (T ++ X, (TP.flat (pinsT T X t off) 0).map mkS)) := by
 unfold spec_l4PieceInsert.f
 have hl' := hl
 rw [List.length_append] at hl'
 have hfl : ((TP.flat t 0).map mkS).length = TP.cnt t := by rw [List.length_map, TP.flat_length]
 refine Ev.congr (fun k => by simp only [Option.bind_some, List.nil_append, List.length_nil]; rw [if_pos (by omega), if_pos (by omega)]) ?_
 by_cases cx : X.length = 0
 ·rw [if_pos cx]
  have : X = [] := List.eq_nil_of_length_eq_zero cx
  subst this
  refine Ev.congr (fun k => if_pos (by simp)) ?_
  exact ev_const fun k => by rw [copy_is _ (by omega)]; simp
 rw [if_neg cx]
 refine Ev.congr (fun k => if_neg (by omega)) ?_
 refine Ev.bind (ev_const fun _ => copy_is _ (by omega)) ?_
 refine Ev.bind (rank_ev t off (by omega) ok.pos (by have := ok.sum; omega)) ?_
 cases hg : goesOn T t off with
 | none =>
  have J := j1_ins T X t off ok ha hc h0 h1 hl hg
  rcases goes_none ok h0 h1 hg with ⟨e0, e1⟩ | ⟨j, x, hx, hj, e1, hne⟩
  ·rw [e1]
   refine Ev.congr (fun k => if_neg (by omega)) ?_
   exact Ev.step (fun k => by simp only [spec_l4PieceInsert.j0]; rw [if_neg (by simp)]) J
  ·rw [e1]
   refine Ev.congr (fun k => by rw [if_pos (by omega), if_pos (by omega), if_pos (by omega), Int.toNat_natCast]) ?_
   refine Ev.bind (total_take t (j + 1) (by omega) ok.pos (by have := ok.sum; omega)) ?_
   by_cases ce : lenP ((TP.toL t).take (j + 1)) = off
   ·obtain ⟨i1, i2, i3, i4⟩ := ok.ins x (List.mem_of_getElem? hx)
    obtain ⟨lv, f1, f2, f3, f4⟩ := rd_flat t j x hx
    have ew : wrap64 (((j + 1 : Nat) : Int) - 1) = (j : Int) := by unfold wrap64; omega
    have hno := hne ce
    refine Ev.step (fun k => by simp only [spec_l4PieceInsert.j0]; rw [if_pos (by simp [ce]), ew, if_pos (by omega), if_pos (by omega), f2, f3, w64 (x := x.off + x.len) (by omega), if_neg hno]) J
   ·exact Ev.step (fun k => by simp only [spec_l4PieceInsert.j0]; rw [if_neg (by simp [ce])]) J
 | some q =>
  obtain ⟨j, x⟩ := q
  obtain ⟨hx, hj, e1, ce, hT, -⟩ := goes_some ok h1 hg
  obtain ⟨i1, i2, i3, i4⟩ := ok.ins x (List.mem_of_getElem? hx)
  obtain ⟨lv, f1, f2, f3, f4⟩ := rd_flat t j x hx
  have ew : wrap64 (((j + 1 : Nat) : Int) - 1) = (j : Int) := by unfold wrap64; omega
  rw [e1]
  refine Ev.congr (fun k => by rw [if_pos (by omega), if_pos (by omega), if_pos (by omega), Int.toNat_natCast]) ?_
  refine Ev.bind (total_take t (j + 1) (by omega) ok.pos (by have := ok.sum; omega)) ?_
  refine Ev.step (f := fun k => (spec_l4Piece.f k (T ++ X) x.off (x.len + (X.length : Int))).bind fun bt => some (T ++ X, ((TP.flat t 0).map mkS).set j (⟨(⟨bt.1, bt.2.1, bt.2.2⟩ : S84), lv⟩ : S86))) (fun k => by
   simp only [spec_l4PieceInsert.j0]
   rw [if_pos (by simp [ce]), ew, if_pos (by omega), if_pos (by omega), f2, f3, f4, w64 (x := x.off + x.len) (by omega), w64 (x := x.len + (X.length : Int)) (by omega), if_pos hT, Int.toNat_natCast]) ?_
  refine Ev.bind (piece_ev (T ++ X) x.off (x.len + (X.length : Int)) i1 (by omega) (by rw [List.length_append]; omega) (by omega)) ?_
  have sf := set_flat t j x (mkP (T ++ X) x.off (x.len + (X.length : Int))) lv f1
  exact ev_const fun _ => by
   unfold pinsT
   rw [hg]
   simp only
   rw [← sf]
   rfl
theorem spec_ev (T : List Int) (xs : List S86) (off : Int) (X : List Int) (hX : X.length ≤ 1048576) : Ev (fun k => spec_PieceInsert.f k T xs off X) ((pieceInsertV T (xs.map cv) X off).1, (pieceInsertV T (xs.map cv) X off).2.1.map cb, (pieceInsertV T (xs.map cv) X off).2.2) := by
 unfold spec_PieceInsert.f pieceInsertV
 refine Ev.bind (pvalid_ev T xs) ?_
 cases hV : openV T (xs.map cv) with
 | none => exact ev_const fun k => by rw [if_neg (by simp)]; rfl
 | some t =>
  obtain ⟨ok, e, hg, hT, -⟩ := openV_ok hV
  obtain ⟨g1, g2, g3, g4, g5, g6⟩ := grownV_toL hg
  obtain ⟨f1, f2, f3, f4⟩ := grownV_fine hg
  rw [List.length_map] at g4 f4
  have hs := ok.sum
  have hk := allP_key t ok.allp
  refine Ev.congr (fun k => if_pos (by simp)) ?_
  refine Ev.bind (total_ev xs g4 g5) ?_
  rw [← f2]
  simp only
  have hx := flat_of_grown hg
  have hrl := f1.pos
  by_cases c1 : off < 0
  ·rw [if_neg (show ¬ (0 ≤ off ∧ off ≤ rl t) by omega)]
   refine Ev.congr (fun k => if_pos c1) ?_
   exact ev_now fun k => by simp only [spec_PieceInsert.j0]; rw [if_pos trivial]; rfl
  refine Ev.congr (fun k => if_neg c1) ?_
  by_cases c2 : off > rl t
  ·rw [if_neg (show ¬ (0 ≤ off ∧ off ≤ rl t) by omega)]
   exact ev_now fun k => by simp only [spec_PieceInsert.j0]; rw [decide_eq_true c2, if_pos rfl]; rfl
  rw [if_pos (show 0 ≤ off ∧ off ≤ rl t by omega)]
  by_cases cx : X.length = 0
  ·rw [if_pos cx]
   have hi := l4ins_ev T X t off ok g2 (by omega) (by omega) (by omega) (by rw [List.length_append]; omega)
   rw [if_pos cx, ← hx] at hi
   refine Ev.step (fun k => by simp only [spec_PieceInsert.j0]; rw [decide_eq_false c2, if_neg (by simp), if_neg (by omega)]) ?_
   refine Ev.bind hi ?_
   exact ev_const fun _ => by simp only [toIt_cb]; rw [← hx]
  rw [if_neg cx]
  by_cases c3 : rl t + (X.length : Int) ≤ 8192
  ·by_cases c4 : T.length + X.length ≤ 220000
   ·rw [if_pos ⟨c3, c4⟩]
    have hi := l4ins_ev T X t off ok g2 (by omega) (by omega) (by omega) (by rw [List.length_append]; omega)
    rw [if_neg cx, ← hx] at hi
    refine Ev.step (fun k => by simp only [spec_PieceInsert.j0]; rw [decide_eq_false c2, if_neg (by simp), if_pos (by omega), w64 (x := rl t + (X.length : Int)) (by omega), w64 (x := (T.length : Int) + (X.length : Int)) (by omega), if_neg (by omega), if_neg (by omega)]) ?_
    refine Ev.bind hi ?_
    exact ev_const fun _ => by simp only [toIt_cb]
   ·rw [if_neg (fun q => c4 q.2)]
    exact ev_now fun k => by simp only [spec_PieceInsert.j0]; rw [decide_eq_false c2, if_neg (by simp), if_pos (by omega), w64 (x := rl t + (X.length : Int)) (by omega), w64 (x := (T.length : Int) + (X.length : Int)) (by omega), if_neg (by omega), if_pos (by omega)]; rfl
  ·rw [if_neg (fun q => c3 q.1)]
   exact ev_now fun k => by simp only [spec_PieceInsert.j0]; rw [decide_eq_false c2, if_neg (by simp), if_pos (by omega), w64 (x := rl t + (X.length : Int)) (by omega), if_pos (by omega)]; rfl
theorem insV_len (T : List Int) (xs : List It) (X : List Int) (off : Int) : (pieceInsertV T xs X off).1.length ≤ 220000 ∧ (pieceInsertV T xs X off).2.1.length ≤ 100000 := by
 unfold pieceInsertV
 cases hV : openV T xs with
 | none => simp
 | some t =>
  obtain ⟨ok, e, hg, hT, -⟩ := openV_ok hV
  have hs := ok.sum
  have hk := allP_key t ok.allp
  have hav := (grownV_toL hg).2.1
  simp only
  split
  ·rename_i cin
   split
   ·simp only [List.length_map, TP.flat_length]; omega
   ·split
    ·rename_i c3
     have := pinsT_cnt T X t off (ok.longer (by rw [List.length_append]; omega)) hav cin.1 cin.2
     simp only [List.length_map, TP.flat_length, List.length_append]; omega
    ·simp
  ·simp
theorem law (T : List Int) (xs : List S133) (off : Int) (X : List Int) (hT : T.length ≤ 9223372036854775807) (hm : xs.length ≤ 9223372036854775807) (hX : X.length ≤ 9223372036854775807) : ∃ k, laws_FnExactPieceInsert.f k T xs off X = some true := by
 refine Ev.rounds (g := fun k => laws_FnExactPieceInsert.f k T xs off X) ?_
 unfold laws_FnExactPieceInsert.f
 by_cases hXl : (X.length : Int) > 1048576
 ·exact ev_const fun k => if_pos hXl
 refine Ev.congr (fun k => if_neg hXl) ?_
 obtain ⟨v, hv, hv0⟩ := szPB_is T xs hT hm
 refine Ev.bind (ev_const fun _ => hv) ?_
 by_cases c : v < 0
 ·exact ev_const fun k => if_pos c
 obtain ⟨h1, h2⟩ := hv0 (by omega)
 have hX' : X.length ≤ 1048576 := by omega
 have hs := spec_ev T (xs.map tv) off X hX'
 have hi : impl_PieceInsert.f T (xs.map tv) off X = some ((pieceInsertV T ((xs.map tv).map cv) X off).1, (pieceInsertV T ((xs.map tv).map cv) X off).2.1.map cb, (pieceInsertV T ((xs.map tv).map cv) X off).2.2) := by unfold impl_PieceInsert.f; rw [if_pos ⟨by omega, by rw [List.length_map]; omega, hX'⟩]
 have hl := insV_len T ((xs.map tv).map cv) X off
 generalize pieceInsertV T ((xs.map tv).map cv) X off = R at hs hi hl
 obtain ⟨Y, zs, r⟩ := R
 simp only at hs hi hl
 obtain ⟨ys, hys⟩ : ∃ ys, zs.map cb = ys := ⟨_, rfl⟩
 have hyl : ys.length ≤ 100000 := by rw [← hys, List.length_map]; exact hl.2
 have hYl := hl.1
 rw [hys] at hs hi
 clear hys hl
 have hml : (xs.map tv).length ≤ 1048576 := by rw [List.length_map]; exact h2
 refine Ev.congr (fun k => if_neg c) ?_
 refine Ev.bind (toPB_ev T xs h1 h2) ?_
 refine Ev.bind (toI_ev X hX') ?_
 refine Ev.bind hs ?_
 refine Ev.bind (toPB_ev T xs h1 h2) ?_
 refine Ev.bind (toI_ev X hX') ?_
 refine Ev.bind (ev_const fun _ => hi) ?_
 refine Ev.bind (eqPB_ev Y ys (by omega) (by omega)) ?_
 refine Ev.congr (fun k => if_pos rfl) ?_
 refine Ev.step (fun k => by simp only [laws_FnExactPieceInsert.j0]; rw [if_neg (by simp)]) ?_
 refine Ev.bind (toPB_ev T xs h1 h2) ?_
 refine Ev.bind (eqPB_ev T (xs.map tv) (by omega) (by omega)) ?_
 refine Ev.congr (fun k => if_pos rfl) ?_
 refine Ev.bind (toI_ev X hX') ?_
 refine Ev.bind (eqI_ev X (by omega)) ?_
 refine Ev.congr (fun k => if_pos rfl) ?_
 refine Ev.bind (markPB_ev T (xs.map tv) h1 hml) ?_
 refine Ev.bind (markInt32S_from (1 + (T.length : Int) + 4 * ((xs.map tv).length : Int)) (by omega) X (by omega)) ?_
 refine Ev.congr (fun k => if_neg (by dsimp only; omega)) ?_
 refine Ev.bind (eqPB_ev Y ys (by omega) (by omega)) ?_
 refine Ev.congr (fun k => if_pos rfl) ?_
 refine Ev.step (fun k => by simp only [laws_FnExactPieceInsert.j1]; rw [if_neg (by simp)]) ?_
 refine Ev.bind (markPB_ev Y ys (by omega) (by omega)) ?_
 refine Ev.bind (heldPB_ev Y.length ys.length (by omega) (by omega)) ?_
 refine Ev.congr (fun k => if_neg (by omega)) ?_
 refine Ev.congr (fun k => if_pos rfl) ?_
 refine Ev.bind (toPB_ev T xs h1 h2) ?_
 refine Ev.bind (toI_ev X hX') ?_
 refine Ev.bind (ev_const fun _ => hi) ?_
 refine Ev.bind (eqPB_ev Y ys (by omega) (by omega)) ?_
 refine Ev.congr (fun k => if_pos rfl) ?_
 refine Ev.step (fun k => by simp only [laws_FnExactPieceInsert.j2]; rw [if_neg (by simp)]) ?_
 refine Ev.bind (heldPB_ev Y.length ys.length (by omega) (by omega)) ?_
 refine Ev.congr (fun k => if_neg (by omega)) ?_
 exact ev_const fun k => if_pos rfl
end Go.Proofs.YtnomidpnofhjdaaGreatDoor.PureFnExactPieceInsert
