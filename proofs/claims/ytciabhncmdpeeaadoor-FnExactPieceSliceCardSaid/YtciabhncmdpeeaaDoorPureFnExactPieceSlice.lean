/- The law FnExactPieceSlice tells true, plainly, at every input. No condition. -/
import Derived.Test.YtciabhncmdpeeaaDoorQFnExactPieceSlicex6
namespace Go.Proofs.YtciabhncmdpeeaaDoor.PureFnExactPieceSlice
open Go Go.RowKit Go.Proofs.YtciabhncmdpeeaaDoor.QFnExactPieceSlice Go.Proofs.YtciabhncmdpeeaaDoorW.PrintWords Go.Proofs.YtciabhncmdpeeaaDoorW.PrintLast
theorem w64 {x : Int} (h : -9223372036854775808 ≤ x ∧ x ≤ 9223372036854775807) : wrap64 x = x := by unfold wrap64; omega
theorem ev_now {α : Type} {g : Nat → Option α} {r : α} (h : ∀ k, g (k + 1) = some r) : Ev g r :=
 ⟨1, fun k hk => by obtain ⟨m, rfl⟩ : ∃ m, k = m + 1 := ⟨k - 1, by omega⟩; exact h m⟩
theorem ev_const {α : Type} {g : Nat → Option α} {r : α} (h : ∀ k, g k = some r) : Ev g r := ⟨0, fun k _ => h k⟩
theorem rdI (xs : List S54) (i : Nat) (h : i < xs.length) : rd_T54 xs (i : Int) = xs[i] := by unfold rd_T54; simp [List.getD, h]
theorem rdL (xs : List S128) (i : Nat) (h : i < xs.length) : rd_T128 xs (i : Int) = xs[i] := by unfold rd_T128; simp [List.getD, h]
def tv (x : S128) : S54 := ⟨⟨x.f0.f0, x.f0.f1, x.f0.f2⟩, x.f1⟩
theorem toItemS_loop (xs : List S128) (hn : xs.length ≤ 1048576) (d : Nat) : ∀ i : Nat, i + d = xs.length →
  Ev (fun k => laws_toItemS.l0 k xs ((xs.take i).map tv ++ List.replicate d z54) (i : Int)) (xs.map tv) := by
 induction d with
 | zero =>
  intro i hi
  obtain rfl : i = xs.length := by omega
  refine ev_now fun k => ?_
  simp only [laws_toItemS.l0]
  rw [if_neg (by omega)]
  simp
 | succ d ih =>
  intro i hi
  have hlt : i < xs.length := by omega
  refine Ev.step (f := fun k => laws_toItemS.l0 k xs ((xs.take (i + 1)).map tv ++ List.replicate d z54) ((i + 1 : Nat) : Int)) (fun k => ?_) (ih (i + 1) (by omega))
  simp only [laws_toItemS.l0, laws_toItem.f, laws_toPiece.f, Option.bind_some]
  rw [if_pos (by omega), if_pos (by omega), if_pos (by simp; omega), w64 (by omega)]
  congr 1
  rw [rdL xs i hlt, Int.toNat_natCast, List.set_append_right _ _ (by simp; omega)]
  rw [show i - ((xs.take i).map tv).length = 0 by simp; omega, List.replicate_succ, List.set_cons_zero, List.take_succ_eq_append_getElem hlt, List.map_append, List.append_assoc]; rfl
theorem toTree_ev (xs : List S128) (hn : xs.length ≤ 1048576) : Ev (fun k => laws_toTree.f k xs) (xs.map tv) := by
 unfold laws_toTree.f
 refine Ev.bind (a := xs.map tv) ?_ (ev_const fun _ => rfl)
 unfold laws_toItemS.f
 refine Ev.congr (fun k => by rw [if_pos (by omega), if_pos (by omega)]) ?_
 have h := toItemS_loop xs hn xs.length 0 (by omega)
 simpa using h
theorem eqItem_is (x : S54) : laws_eqItem.f x.f0.f0 x.f0.f1 x.f0.f2 x.f1 x.f0.f0 x.f0.f1 x.f0.f2 x.f1 = some true := by
 unfold laws_eqItem.f laws_eqPiece.f
 simp
theorem eqItemS_loop (xs : List S54) (hn : xs.length ≤ 9000000) (d : Nat) : ∀ i : Nat, i + d = xs.length →
  Ev (fun k => laws_eqItemS.l0 k xs xs (i : Int)) true := by
 induction d with
 | zero => intro i hi; refine ev_now fun k => ?_; simp only [laws_eqItemS.l0]; rw [if_neg (by omega)]
 | succ d ih =>
  intro i hi
  refine Ev.step (f := fun k => laws_eqItemS.l0 k xs xs ((i + 1 : Nat) : Int)) (fun k => ?_) (ih (i + 1) (by omega))
  simp only [laws_eqItemS.l0]
  rw [if_pos (by omega), if_pos (by omega), if_pos (by omega), w64 (by omega), eqItem_is]; rfl
theorem eqTree_ev (xs : List S54) (hn : xs.length ≤ 9000000) : Ev (fun k => laws_eqTree.f k xs xs) true := by
 unfold laws_eqTree.f
 refine Ev.bind (a := true) ?_ (ev_const fun _ => if_pos rfl)
 unfold laws_eqItemS.f
 exact Ev.congr (fun k => if_pos rfl) (eqItemS_loop xs hn xs.length 0 (by omega))
theorem szTree_is (xs : List S128) (h : xs.length ≤ 1048576) : ∃ v, laws_szTree.f xs 1048576 = some v ∧ 0 ≤ v := by
 unfold laws_szTree.f laws_szItemS.f
 refine ⟨1048576 - (xs.length : Int), ?_, by omega⟩
 rw [w64 (by omega), if_neg (by omega)]
 simp only [Option.bind_some]
 rw [if_neg (by omega)]
theorem szTree_big (xs : List S128) (h : 1048576 < xs.length) (hm : xs.length ≤ 9223372036854775807) : laws_szTree.f xs 1048576 = some (-1) := by
 unfold laws_szTree.f laws_szItemS.f
 rw [w64 (by omega), if_pos (by omega)]
 rfl
/-! the specification's validity is the program's -/
theorem cv_rd (xs : List S54) (i : Nat) : QBase.rd_T54 (xs.map cv) (i : Int) = cv (rd_T54 xs (i : Int)) := by
 unfold QBase.rd_T54 rd_T54
 simp only [Int.toNat_natCast, List.getD, List.getElem?_map]
 cases xs[i]? <;> rfl
theorem pieceOk_is (x : S54) : spec_l2PieceOk.f x.f0.f0 x.f0.f1 x.f0.f2 = some (decide (goodP (cv x))) := by
 have no : ¬ goodP (cv x) → some false = some (decide (goodP (cv x))) := fun h => congrArg some (decide_eq_false h).symm
 unfold spec_l2PieceOk.f
 by_cases c1 : x.f0.f1 < 1
 ·rw [if_pos c1]; exact no (fun h => by unfold goodP cv at h; simp only at h; omega)
 rw [if_neg c1]
 by_cases c2 : x.f0.f1 > 8192
 ·rw [if_pos c2]; exact no (fun h => by unfold goodP cv at h; simp only at h; omega)
 rw [if_neg c2]
 by_cases c3 : x.f0.f0 < 0
 ·rw [if_pos c3]; exact no (fun h => by unfold goodP cv at h; simp only at h; omega)
 rw [if_neg c3]
 by_cases c4 : x.f0.f0 > 220000
 ·rw [if_pos c4]; exact no (fun h => by unfold goodP cv at h; simp only at h; omega)
 rw [if_neg c4, w64 (by omega)]
 by_cases c5 : x.f0.f0 + x.f0.f1 ≤ 220000
 ·rw [if_pos c5]
  by_cases c6 : x.f0.f2 ≥ 0
  ·rw [if_pos c6]; exact congrArg some (decide_eq_decide.2 (by unfold goodP cv; simp only; omega))
  ·rw [if_neg c6]; exact no (fun h => by unfold goodP cv at h; simp only at h; omega)
 ·rw [if_neg c5]; exact no (fun h => by unfold goodP cv at h; simp only at h; omega)
theorem total_loop (xs : List S54) (hn : xs.length ≤ 8192) (hg : AllGood (xs.map cv)) (d : Nat) : ∀ i : Nat, i + d = xs.length →
  Ev (fun k => spec_l2Total.l0 k (sumL ((xs.take i).map cv)) xs (xs.length : Int) (i : Int)) (sumL (xs.map cv)) := by
 induction d with
 | zero =>
  intro i hi
  obtain rfl : i = xs.length := by omega
  refine ev_now fun k => ?_
  simp only [spec_l2Total.l0]
  rw [if_neg (by omega), List.take_length]
 | succ d ih =>
  intro i hi
  have hlt : i < xs.length := by omega
  have hb := sumL_bound ((xs.take i).map cv) (fun y hy => hg y (by
   obtain ⟨z, hz, rfl⟩ := List.mem_map.1 hy
   exact List.mem_map.2 ⟨z, List.mem_of_mem_take hz, rfl⟩))
  have hx := hg (cv xs[i]) (List.mem_map.2 ⟨xs[i], List.getElem_mem hlt, rfl⟩)
  unfold goodP at hx
  simp only [List.length_map, List.length_take] at hb
  have e : sumL ((xs.take (i + 1)).map cv) = sumL ((xs.take i).map cv) + xs[i].f0.f1 := by
   rw [List.take_succ_eq_append_getElem hlt, List.map_append, sumL_app]; simp [sumL, cv]
  refine Ev.step (f := fun k => spec_l2Total.l0 k (sumL ((xs.take (i + 1)).map cv)) xs (xs.length : Int) ((i + 1 : Nat) : Int)) (fun k => ?_) (ih (i + 1) (by omega))
  simp only [spec_l2Total.l0]
  simp only [cv] at hx
  rw [if_pos (by omega), if_pos (by omega), if_pos (by omega), rdI xs i hlt, w64 (by omega), w64 (by omega), e]; rfl
theorem total_ev (xs : List S54) (hn : xs.length ≤ 8192) (hg : AllGood (xs.map cv)) : Ev (fun k => spec_l2Total.f k xs) (sumL (xs.map cv)) := by
 unfold spec_l2Total.f
 exact total_loop xs hn hg xs.length 0 (by omega)
def shapeV (n : Nat) (ys : List It) (level : Int) : Int := match rootedV n ys level with | some t => (TP.hgt t : Int) | none => -1
theorem seg_cons (xs : List S54) (lo hi : Nat) (h : lo < hi) (hh : hi ≤ xs.length) : ((xs.map cv).take hi).drop lo = cv (rd_T54 xs (lo : Int)) :: ((xs.map cv).take hi).drop (lo + 1) := by
 rw [rd_drop _ lo (by rw [List.length_take, List.length_map]; omega)]
 congr 1
 rw [← cv_rd]
 unfold QBase.rd_T54
 simp only [Int.toNat_natCast, List.getD, List.getElem?_take]
 rw [if_pos h]
theorem shapeV_le (n : Nat) (ys : List It) (level : Int) : -1 ≤ shapeV n ys level ∧ shapeV n ys level ≤ ys.length := by
 unfold shapeV
 cases h : rootedV n ys level with
 | none => simp only; omega
 | some t =>
  have := rootedV_cnt _ _ _ _ h
  have := TP.hgt_le t
  simp only; omega
def shR (xs : List S54) (n lo hi : Nat) (level : Int) : Option Int → Int
 | none => -1
 | some root => if root < 0 then -1 else
     if shapeV n (((xs.map cv).take (lo + root.toNat)).drop lo) (level + 1) < 0 then -1 else if shapeV n (((xs.map cv).take hi).drop (lo + root.toNat + 1)) (level + 1) < 0 then -1
     else if shapeV n (((xs.map cv).take (lo + root.toNat)).drop lo) (level + 1) ≤ shapeV n (((xs.map cv).take hi).drop (lo + root.toNat + 1)) (level + 1) + 1 ∧ shapeV n (((xs.map cv).take hi).drop (lo + root.toNat + 1)) (level + 1) ≤ shapeV n (((xs.map cv).take (lo + root.toNat)).drop lo) (level + 1) + 1
      then (if shapeV n (((xs.map cv).take hi).drop (lo + root.toNat + 1)) (level + 1) > shapeV n (((xs.map cv).take (lo + root.toNat)).drop lo) (level + 1) then shapeV n (((xs.map cv).take hi).drop (lo + root.toNat + 1)) (level + 1) + 1 else shapeV n (((xs.map cv).take (lo + root.toNat)).drop lo) (level + 1) + 1) else -1
theorem shape_ev (xs : List S54) (hx : xs.length ≤ 8192) (n : Nat) : ∀ (lo hi : Nat) (level : Int), lo ≤ hi → hi ≤ xs.length → hi - lo < n → 0 ≤ level → level ≤ 1000 →
  Ev (fun k => spec_l2Shape.f k xs (lo : Int) (hi : Int) level) (shapeV n (((xs.map cv).take hi).drop lo) level) := by
 induction n with
 | zero => intro lo hi level h1 h2 h3; omega
 | succ n ih =>
  intro lo hi level h1 h2 h3 l0 l1
  have hlen : ((((xs.map cv).take hi).drop lo)).length = hi - lo := by rw [List.length_drop, List.length_take, List.length_map]; omega
  by_cases c0 : hi ≤ lo
  ·refine ev_now fun k => ?_
   simp only [spec_l2Shape.f]
   rw [if_pos (by omega)]
   unfold shapeV
   have e : rootedV (n + 1) (((xs.map cv).take hi).drop lo) level = some .nil := by simp only [rootedV]; rw [if_pos (by omega)]
   rw [e]; rfl
  by_cases c1 : 40 < level
  ·refine ev_now fun k => ?_
   simp only [spec_l2Shape.f]
   rw [if_neg (by omega), if_pos c1]
   unfold shapeV
   have e : rootedV (n + 1) (((xs.map cv).take hi).drop lo) level = none := by simp only [rootedV]; rw [if_neg (by omega), if_pos c1]
   rw [e]
  refine Ev.step (fun k => by simp only [spec_l2Shape.f]; rw [if_neg (by omega), if_neg c1]) ?_
  have hV : shapeV (n + 1) (((xs.map cv).take hi).drop lo) level = shR xs n lo hi level (scanL level (((xs.map cv).take hi).drop lo) 0 (-1)) := by
   have e0 : ∀ o, rootedV (n + 1) (((xs.map cv).take hi).drop lo) level = o → shapeV (n + 1) (((xs.map cv).take hi).drop lo) level = match o with | some t => (TP.hgt t : Int) | none => -1 := by
    intro o h; unfold shapeV; rw [h]
   rw [e0 _ (by simp only [rootedV]; rw [if_neg (by omega), if_neg c1])]
   cases hs : scanL level (((xs.map cv).take hi).drop lo) 0 (-1) with
   | none => rfl
   | some root =>
    simp only [shR]
    by_cases hr : root < 0
    ·rw [if_pos hr, if_pos hr]
    ·rw [if_neg hr, if_neg hr]
     have hle := (scanL_le level _ 0 (-1) (by omega) (by omega) root hs).2
     rw [hlen] at hle
     have e1 : (((xs.map cv).take hi).drop lo).take root.toNat = ((xs.map cv).take (lo + root.toNat)).drop lo := by
      rw [List.take_drop, List.take_take]; congr 2; omega
     have e2 : (((xs.map cv).take hi).drop lo).drop (root.toNat + 1) = ((xs.map cv).take hi).drop (lo + root.toNat + 1) := by
      rw [List.drop_drop]; congr 1
     rw [e1, e2]
     unfold shapeV
     cases hl : rootedV n (((xs.map cv).take (lo + root.toNat)).drop lo) (level + 1) with
     | none => simp
     | some l =>
      cases hr2 : rootedV n (((xs.map cv).take hi).drop (lo + root.toNat + 1)) (level + 1) with
      | none => simp
      | some r =>
       simp only
       have k1 : ¬ ((TP.hgt l : Int) < 0) := by omega
       have k2 : ¬ ((TP.hgt r : Int) < 0) := by omega
       rw [if_neg k1, if_neg k2]
       by_cases hb : TP.hgt l ≤ TP.hgt r + 1 ∧ TP.hgt r ≤ TP.hgt l + 1
       ·have hb' : (TP.hgt l : Int) ≤ TP.hgt r + 1 ∧ (TP.hgt r : Int) ≤ TP.hgt l + 1 := by omega
        rw [if_pos hb, if_pos hb']
        simp only [TP.hgt]
        split <;> omega
       ·have hb' : ¬ ((TP.hgt l : Int) ≤ TP.hgt r + 1 ∧ (TP.hgt r : Int) ≤ TP.hgt l + 1) := by omega
        rw [if_neg hb, if_neg hb']
  rw [hV]
  generalize hR : scanL level (((xs.map cv).take hi).drop lo) 0 (-1) = R
  have hbound : ∀ root, R = some root → root < ((hi - lo : Nat) : Int) ∧ -1 ≤ root := by
   intro root h
   rw [h] at hR
   have := scanL_le level _ 0 (-1) (by omega) (by omega) root hR
   rw [hlen] at this; omega
  have main : ∀ (d i : Nat) (rel : Int), i + d = hi → lo ≤ i → -1 ≤ rel → rel < ((i - lo : Nat) : Int) → scanL level (((xs.map cv).take hi).drop i) (i - lo) rel = R →
    Ev (fun k => spec_l2Shape.l0 k xs (lo : Int) (hi : Int) level (if rel < 0 then -1 else (lo : Int) + rel) (i : Int)) (shR xs n lo hi level R) := by
   intro d
   induction d with
   | zero =>
    intro i rel hi' hlo hr0 hr1 hsc
    obtain rfl : i = hi := by omega
    have e : ((xs.map cv).take i).drop i = [] := List.drop_eq_nil_of_le (by rw [List.length_take]; omega)
    rw [e] at hsc
    simp only [scanL] at hsc
    subst hsc
    simp only [shR]
    by_cases hneg : rel < 0
    ·rw [if_pos hneg, if_pos hneg]
     refine ev_now fun k => ?_
     simp only [spec_l2Shape.l0]
     rw [if_neg (by omega), if_pos (by omega)]
    ·rw [if_neg hneg]
     obtain ⟨ρ, rfl⟩ : ∃ ρ : Nat, rel = ρ := ⟨rel.toNat, by omega⟩
     simp only [Int.toNat_natCast]
     refine Ev.step (fun k => by simp only [spec_l2Shape.l0]; rw [if_neg (by omega), if_neg (by omega)]) ?_
     have hl := ih lo (lo + ρ) (level + 1) (by omega) (by omega) (by omega) (by omega) (by omega)
     have hr := ih (lo + ρ + 1) i (level + 1) (by omega) (by omega) (by omega) (by omega) (by omega)
     have bl := shapeV_le n (((xs.map cv).take (lo + ρ)).drop lo) (level + 1)
     have br := shapeV_le n (((xs.map cv).take i).drop (lo + ρ + 1)) (level + 1)
     simp only [List.length_drop, List.length_take, List.length_map] at bl br
     generalize shapeV n (((xs.map cv).take (lo + ρ)).drop lo) (level + 1) = a at hl bl
     generalize shapeV n (((xs.map cv).take i).drop (lo + ρ + 1)) (level + 1) = b at hr br
     refine Ev.congr (f := fun k => (spec_l2Shape.f k xs (lo : Int) ((lo + ρ : Nat) : Int) (level + 1)).bind fun t108 => (if t108 < 0 then (some (-1)) else ((spec_l2Shape.f k xs ((lo + ρ + 1 : Nat) : Int) (i : Int) (level + 1)).bind fun t109 => (if t109 < 0 then (spec_l2Shape.j1 k t108 t109 true) else (if (wrap64 (t108 - t109)) > 1 then (spec_l2Shape.j1 k t108 t109 true) else (spec_l2Shape.j1 k t108 t109 (decide ((wrap64 (t109 - t108)) > 1)))))))) (fun k => by
      rw [w64 (x := level + 1) (by omega), w64 (x := (lo : Int) + (ρ : Int) + 1) (by omega)]; rfl) ?_
     refine Ev.bind hl ?_
     by_cases ca : a < 0
     ·rw [if_pos ca]; exact ev_const fun k => if_pos ca
     ·rw [if_neg ca]
      refine Ev.congr (fun k => if_neg ca) ?_
      refine Ev.bind hr ?_
      have J : ∀ t, Ev (fun k => spec_l2Shape.j1 k a b t) (if t = true then -1 else if b > a then b + 1 else a + 1) := by
       intro t
       refine ev_now fun k => ?_
       simp only [spec_l2Shape.j1]
       rw [w64 (by omega), w64 (by omega)]
       split
       ·rfl
       ·split <;> rfl
      by_cases cb : b < 0
      ·rw [if_pos cb]
       have := J true
       rw [if_pos rfl] at this
       exact Ev.congr (fun k => if_pos cb) this
      ·rw [if_neg cb]
       refine Ev.congr (fun k => if_neg cb) ?_
       by_cases cd : a - b > 1
       ·have nb : ¬ (a ≤ b + 1 ∧ b ≤ a + 1) := by omega
        rw [if_neg nb]
        have := J true
        rw [if_pos rfl] at this
        exact Ev.congr (fun k => if_pos (by rw [w64 (by omega)]; exact cd)) this
       ·refine Ev.congr (fun k => by rw [if_neg (by rw [w64 (by omega)]; exact cd), w64 (x := b - a) (by omega)]) ?_
        by_cases ce : b - a > 1
        ·have nb : ¬ (a ≤ b + 1 ∧ b ≤ a + 1) := by omega
         rw [if_neg nb]
         have := J (decide (b - a > 1))
         rw [if_pos (decide_eq_true ce)] at this
         exact this
        ·have nb : a ≤ b + 1 ∧ b ≤ a + 1 := by omega
         rw [if_pos nb]
         have := J (decide (b - a > 1))
         rw [if_neg (by rw [decide_eq_false ce]; simp)] at this
         exact this
   | succ d ihd =>
    intro i rel hi' hlo hr0 hr1 hsc
    have hlt : i < hi := by omega
    rw [seg_cons xs i hi hlt h2] at hsc
    simp only [scanL] at hsc
    have hx1 : (cv (rd_T54 xs (i : Int))).f1 = (rd_T54 xs (i : Int)).f1 := rfl
    rw [hx1] at hsc
    generalize hy : (rd_T54 xs (i : Int)).f1 = y at hsc
    by_cases d1 : y < level
    ·rw [if_pos (.inl d1)] at hsc
     subst hsc
     simp only [shR]
     refine ev_now fun k => ?_
     simp only [spec_l2Shape.l0, hy]
     rw [if_pos (by omega), if_pos (by omega), if_pos (by omega), if_pos d1]
    ·by_cases d2 : y = level
     ·by_cases d3 : 0 ≤ rel
      ·rw [if_pos (.inr ⟨d2, d3⟩)] at hsc
       subst hsc
       simp only [shR]
       refine ev_now fun k => ?_
       simp only [spec_l2Shape.l0, hy]
       rw [if_pos (by omega), if_pos (by omega), if_pos (by omega), if_neg d1, if_pos d2, if_pos (by rw [if_neg (by omega)]; omega)]
      ·rw [if_neg (by omega), if_pos d2] at hsc
       have h := ihd (i + 1) (((i - lo : Nat) : Int)) (by omega) (by omega) (by omega) (by omega) (by rw [← hsc]; congr 1; omega)
       refine Ev.step (fun k => ?_) h
       simp only [spec_l2Shape.l0, hy]
       rw [if_pos (by omega), if_pos (by omega), if_pos (by omega), if_neg d1, if_pos d2, if_neg (by rw [if_pos (by omega)]; omega), w64 (by omega), if_neg (by omega)]
       congr 1
       omega
     ·rw [if_neg (by omega), if_neg d2] at hsc
      have h := ihd (i + 1) rel (by omega) (by omega) (by omega) (by omega) (by rw [← hsc]; congr 1; omega)
      refine Ev.step (fun k => ?_) h
      simp only [spec_l2Shape.l0, hy]
      rw [if_pos (by omega), if_pos (by omega), if_pos (by omega), if_neg d1, if_neg d2, w64 (by omega)]
      rfl
  have := main (hi - lo) lo (-1) (by omega) (by omega) (by omega) (by omega) (by rw [Nat.sub_self]; exact hR)
  rw [if_pos (by omega)] at this
  exact this
theorem valid_loop (xs : List S54) (hn : xs.length ≤ 8192) (d : Nat) : ∀ i : Nat, i + d = xs.length → AllGood ((xs.take i).map cv) →
  Ev (fun k => spec_L2Valid.l0 k xs (xs.length : Int) (i : Int) xs) (decide ((grownV (xs.map cv)).isSome = true)) := by
 induction d with
 | zero =>
  intro i hi hg
  obtain rfl : i = xs.length := by omega
  rw [List.take_length] at hg
  refine Ev.step (fun k => by simp only [spec_L2Valid.l0]; rw [if_neg (by omega)]) ?_
  refine Ev.bind (total_ev xs hn hg) ?_
  unfold grownV
  rw [List.length_map]
  by_cases cs : sumL (xs.map cv) ≤ 8192
  ·rw [if_pos ⟨hn, hg, cs⟩]
   refine Ev.congr (fun k => if_pos cs) ?_
   have hsh := shape_ev xs hn (xs.length + 1) 0 xs.length 0 (by omega) (by omega) (by omega) (by omega) (by omega)
   rw [List.drop_zero, List.take_of_length_le (by rw [List.length_map]; omega)] at hsh
   refine Ev.bind hsh ?_
   refine ev_const fun _ => ?_
   unfold shapeV
   cases rootedV (xs.length + 1) (xs.map cv) 0 with
   | none => rfl
   | some t => simp
  ·rw [if_neg (fun h => cs h.2.2)]
   exact ev_const fun k => by rw [if_neg cs]; rfl
 | succ d ih =>
  intro i hi hg
  have hlt : i < xs.length := by omega
  refine Ev.step (fun k => by simp only [spec_L2Valid.l0]; rw [if_pos (by omega), if_pos (by omega), if_pos (by omega), pieceOk_is, Option.bind_some, w64 (by omega)]) ?_
  have ex : rd_T54 xs (i : Int) = xs[i] := rdI xs i hlt
  rw [ex]
  by_cases gd : goodP (cv xs[i])
  ·refine Ev.congr (fun k => if_pos (decide_eq_true gd)) ?_
   exact ih (i + 1) (by omega) (fun y hy => by
    rw [List.take_succ_eq_append_getElem hlt, List.map_append] at hy
    rcases List.mem_append.1 hy with hy | hy
    ·exact hg y hy
    ·simp only [List.map_cons, List.map_nil, List.mem_singleton] at hy
     rw [hy]; exact gd)
  ·refine ev_const fun k => ?_
   rw [if_neg (by rw [decide_eq_false gd]; simp)]
   unfold grownV
   rw [if_neg (fun h => gd (h.2.1 (cv xs[i]) (List.mem_map.2 ⟨xs[i], List.getElem_mem hlt, rfl⟩)))]
   rfl
theorem valid_ev (xs : List S54) : Ev (fun k => spec_L2Valid.f k xs) (decide ((grownV (xs.map cv)).isSome = true)) := by
 unfold spec_L2Valid.f
 by_cases c : (xs.length : Int) > 8192
 ·refine ev_const fun k => ?_
  rw [if_pos c]
  unfold grownV
  rw [if_neg (fun h => by have := h.1; rw [List.length_map] at this; omega)]
  rfl
 ·refine Ev.congr (fun k => if_neg c) ?_
  exact valid_loop xs (by omega) xs.length 0 (by omega) (fun y hy => by simp at hy)
/-! lists of runes of the laws -/
theorem toI_loop (xs : List Int) (hn : xs.length ≤ 1048576) (d : Nat) : ∀ i : Nat, i + d = xs.length →
  Ev (fun k => laws_toInt32S.l0 k xs (xs.take i ++ List.replicate d 0) (i : Int)) xs := by
 induction d with
 | zero =>
  intro i hi
  obtain rfl : i = xs.length := by omega
  refine ev_now fun k => ?_
  simp only [laws_toInt32S.l0]
  rw [if_neg (by omega)]
  simp
 | succ d ih =>
  intro i hi
  have hlt : i < xs.length := by omega
  refine Ev.step (f := fun k => laws_toInt32S.l0 k xs (xs.take (i + 1) ++ List.replicate d 0) ((i + 1 : Nat) : Int)) (fun k => ?_) (ih (i + 1) (by omega))
  simp only [laws_toInt32S.l0]
  have e : rd xs (i : Int) = xs[i] := by unfold rd; simp [List.getD, hlt]
  rw [if_pos (by omega), if_pos (by omega), if_pos (by simp; omega), w64 (by omega), e, Int.toNat_natCast, List.set_append_right _ _ (by simp; omega)]
  congr 1
  rw [show i - (xs.take i).length = 0 by simp; omega, List.replicate_succ, List.set_cons_zero, List.take_succ_eq_append_getElem hlt, List.append_assoc]; rfl
theorem toI_ev (xs : List Int) (hn : xs.length ≤ 1048576) : Ev (fun k => laws_toInt32S.f k xs) xs := by
 unfold laws_toInt32S.f
 refine Ev.congr (fun k => by rw [if_pos (by omega), if_pos (by omega)]) ?_
 have h := toI_loop xs hn xs.length 0 (by omega)
 simpa using h
theorem eqI_loop (xs : List Int) (hn : xs.length ≤ 9000000) (d : Nat) : ∀ i : Nat, i + d = xs.length →
  Ev (fun k => laws_eqInt32S.l0 k xs xs (i : Int)) true := by
 induction d with
 | zero => intro i hi; refine ev_now fun k => ?_; simp only [laws_eqInt32S.l0]; rw [if_neg (by omega)]
 | succ d ih =>
  intro i hi
  refine Ev.step (f := fun k => laws_eqInt32S.l0 k xs xs ((i + 1 : Nat) : Int)) (fun k => ?_) (ih (i + 1) (by omega))
  simp only [laws_eqInt32S.l0]
  rw [if_pos (by omega), if_pos (by omega), if_pos (by omega), if_pos (by first | rfl | trivial), w64 (by omega)]; rfl
theorem eqI_ev (xs : List Int) (hn : xs.length ≤ 9000000) : Ev (fun k => laws_eqInt32S.f k xs xs) true := by
 unfold laws_eqInt32S.f
 exact Ev.congr (fun k => if_pos rfl) (eqI_loop xs hn xs.length 0 (by omega))
theorem toPB_ev (T : List Int) (xs : List S128) (h1 : T.length ≤ 1048576) (h2 : xs.length ≤ 1048576) : Ev (fun k => laws_toPieceBuf.f k T xs) (T, xs.map tv) := by
 unfold laws_toPieceBuf.f
 exact Ev.bind (toI_ev T h1) (Ev.bind (toTree_ev xs h2) (ev_const fun _ => rfl))
theorem eqPB_ev (T : List Int) (xs : List S54) (h1 : T.length ≤ 9000000) (h2 : xs.length ≤ 9000000) : Ev (fun k => laws_eqPieceBuf.f k T xs T xs) true := by
 unfold laws_eqPieceBuf.f
 refine Ev.bind (eqI_ev T h1) ?_
 refine Ev.congr (fun k => if_pos rfl) ?_
 refine Ev.bind (eqTree_ev xs h2) ?_
 exact ev_const fun k => if_pos rfl
theorem szPB_is (T : List Int) (xs : List S128) (hT : T.length ≤ 9223372036854775807) (hm : xs.length ≤ 9223372036854775807) : ∃ v, laws_szPieceBuf.f T xs 1048576 = some v ∧ (0 ≤ v → T.length ≤ 1048576 ∧ xs.length ≤ 1048576) := by
 unfold laws_szPieceBuf.f laws_szInt32S.f
 rw [w64 (by omega)]
 by_cases c : (1048576 : Int) - (T.length : Int) < 0
 ·rw [if_pos c]
  exact ⟨-1, by simp only [Option.bind_some]; rw [if_pos (by omega)], fun h => by omega⟩
 ·rw [if_neg c]
  simp only [Option.bind_some]
  rw [if_neg c]
  unfold laws_szTree.f laws_szItemS.f
  rw [w64 (by omega)]
  by_cases c2 : (1048576 : Int) - (T.length : Int) - (xs.length : Int) < 0
  ·rw [if_pos c2]
   exact ⟨-1, by simp only [Option.bind_some]; rw [if_pos (by omega)]; simp only [Option.bind_some]; rw [if_pos (by omega)], fun h => by omega⟩
  ·rw [if_neg c2]
   exact ⟨_, by simp only [Option.bind_some]; rw [if_neg c2]; simp only [Option.bind_some]; rw [if_neg c2], fun h => by omega⟩
/-! the specification's words -/
theorem nl_ev_loop (L : List Int) (hn : L.length ≤ 2000000) (d : Nat) : ∀ i : Nat, i + d = L.length → Ev (fun k => spec_l1Breaks.l0 k (nl (L.take i)) L (L.length : Int) (i : Int)) (nl L) := by
 induction d with
 | zero =>
  intro i hi
  obtain rfl : i = L.length := by omega
  refine ev_now fun k => ?_
  simp only [spec_l1Breaks.l0]
  rw [if_neg (by omega), List.take_length]
 | succ d ih =>
  intro i hi
  have hlt : i < L.length := by omega
  have hb := nl_le (L.take i)
  have hl : (L.take i).length ≤ 2000000 := by rw [List.length_take]; omega
  have e : rd L (i : Int) = L[i] := by unfold rd; simp [List.getD, hlt]
  have e2 : nl (L.take (i + 1)) = nl (L.take i) + (if L[i] = 10 then 1 else 0) := by
   rw [List.take_succ_eq_append_getElem hlt, nl_app]; simp [nl]
  refine Ev.step (f := fun k => spec_l1Breaks.l0 k (nl (L.take (i + 1))) L (L.length : Int) ((i + 1 : Nat) : Int)) (fun k => ?_) (ih (i + 1) (by omega))
  simp only [spec_l1Breaks.l0]
  rw [if_pos (by omega), if_pos (by omega), if_pos (by omega), e, w64 (x := (i : Int) + 1) (by omega), w64 (x := nl (L.take i) + 1) (by omega), e2]
  by_cases c : L[i] = 10
  ·rw [if_pos c, if_pos c]; rfl
  ·rw [if_neg c, if_neg c, Int.add_zero]; rfl
theorem nl_ev (L : List Int) (hn : L.length ≤ 2000000) : Ev (fun k => spec_l1Breaks.f k L) (nl L) := by
 unfold spec_l1Breaks.f
 exact nl_ev_loop L hn L.length 0 (Nat.zero_add _)
theorem pvalid_loop (T : List Int) (xs : List S54) (hT : T.length ≤ 220000) (hn : xs.length ≤ 8192) (hg : AllGood (xs.map cv)) (d : Nat) : ∀ i : Nat, i + d = xs.length →
  Ev (fun k => spec_L4PieceValid.l0 k xs (xs.length : Int) (i : Int) T xs) (decide (OkPcs T ((xs.drop i).map cv))) := by
 induction d with
 | zero =>
  intro i hi
  obtain rfl : i = xs.length := by omega
  refine ev_now fun k => ?_
  simp only [spec_L4PieceValid.l0]
  rw [if_neg (by omega), List.drop_length]
  simp [OkPcs]
 | succ d ih =>
  intro i hi
  have hlt : i < xs.length := by omega
  have g := hg (cv xs[i]) (List.mem_map.2 ⟨xs[i], List.getElem_mem hlt, rfl⟩)
  unfold goodP at g
  simp only [cv] at g
  have hd : (xs.drop i).map cv = cv xs[i] :: (xs.drop (i + 1)).map cv := by rw [List.drop_eq_getElem_cons hlt, List.map_cons]
  have hok : OkPcs T ((xs.drop i).map cv) ↔ okPc T (cv xs[i]) ∧ OkPcs T ((xs.drop (i + 1)).map cv) := by
   rw [hd]; unfold OkPcs
   constructor
   ·intro h; exact ⟨h _ List.mem_cons_self, fun y hy => h y (List.mem_cons_of_mem _ hy)⟩
   ·rintro ⟨h1, h2⟩ y hy
    rcases List.mem_cons.1 hy with rfl | hy
    ·exact h1
    ·exact h2 y hy
  have no : ¬ okPc T (cv xs[i]) → some false = some (decide (OkPcs T ((xs.drop i).map cv))) := fun h => congrArg some (decide_eq_false (fun q => h (hok.1 q).1)).symm
  refine Ev.step (fun k => by
   simp only [spec_L4PieceValid.l0]
   rw [if_pos (by omega), if_pos (by omega), if_pos (by omega), rdI xs i hlt, w64 (x := xs[i].f0.f0 + xs[i].f0.f1) (by omega), w64 (x := (i : Int) + 1) (by omega)]) ?_
  by_cases c1 : xs[i].f0.f0 + xs[i].f0.f1 > (T.length : Int)
  ·exact ev_const fun k => by rw [if_pos c1]; exact no (fun h => by have := h.1; simp only [cv] at this; omega)
  ·refine Ev.congr (fun k => by rw [if_neg c1, if_pos (by omega), if_pos (by omega), if_pos (by omega)]) ?_
   refine Ev.bind (nl_ev _ (by rw [List.length_drop, List.length_take]; omega)) ?_
   by_cases c2 : xs[i].f0.f2 = nl ((T.take (xs[i].f0.f0 + xs[i].f0.f1).toNat).drop xs[i].f0.f0.toNat)
   ·refine Ev.congr (fun k => by rw [if_pos c2, show (i : Int) + 1 = ((i + 1 : Nat) : Int) by omega]) ?_
    have e : decide (OkPcs T ((xs.drop i).map cv)) = decide (OkPcs T ((xs.drop (i + 1)).map cv)) := decide_eq_decide.2 (hok.trans ⟨fun h => h.2, fun h => ⟨⟨by simp only [cv]; omega, c2⟩, h⟩⟩)
    rw [e]
    exact ih (i + 1) (by omega)
   ·exact ev_const fun k => by rw [if_neg c2]; exact no (fun h => c2 h.2)
theorem pvalid_ev (T : List Int) (xs : List S54) : Ev (fun k => spec_L4PieceValid.f k T xs) (decide ((openV T (xs.map cv)).isSome = true)) := by
 unfold spec_L4PieceValid.f
 by_cases c : (T.length : Int) > 220000
 ·refine Ev.congr (fun k => if_pos c) ?_
  refine ev_now fun k => ?_
  simp only [spec_L4PieceValid.j0]
  rw [if_pos trivial]
  unfold openV
  rw [if_neg (fun h => by have := h.1; omega)]; rfl
 ·refine Ev.congr (fun k => if_neg c) ?_
  refine Ev.bind (valid_ev xs) ?_
  cases hV : grownV (xs.map cv) with
  | none =>
   refine ev_now fun k => ?_
   simp only [spec_L4PieceValid.j0]
   rw [if_pos (by simp)]
   unfold openV
   rw [hV]; split <;> rfl
  | some t =>
   obtain ⟨h1, h2, h3, h4, h5, h6⟩ := grownV_toL hV
   rw [List.length_map] at h4
   refine Ev.step (fun k => by simp only [spec_L4PieceValid.j0]; rw [if_neg (by simp)]) ?_
   have h := pvalid_loop T xs (by omega) h4 h5 xs.length 0 (Nat.zero_add _)
   rw [List.drop_zero] at h
   have e : decide ((openV T (xs.map cv)).isSome = true) = decide (OkPcs T (xs.map cv)) := by
    refine decide_eq_decide.2 ?_
    unfold openV
    by_cases q : OkPcs T (xs.map cv)
    ·rw [if_pos ⟨by omega, q⟩, hV]; simp [q]
    ·rw [if_neg (fun z => q z.2)]; simp [q]
   rw [e]; exact h
theorem ptxt_loop (T : List Int) (xs : List S54) (hT : T.length ≤ 220000) (hn : xs.length ≤ 8192) (hg : AllGood (xs.map cv)) (ho : OkPcs T (xs.map cv)) (d : Nat) : ∀ i : Nat, i + d = xs.length →
  Ev (fun k => spec_L4PieceText.l0 k (txtOf T (((xs.take i).map cv).map pcOf)) xs (xs.length : Int) (i : Int) T xs) (txtOf T ((xs.map cv).map pcOf)) := by
 induction d with
 | zero =>
  intro i hi
  obtain rfl : i = xs.length := by omega
  refine ev_now fun k => ?_
  simp only [spec_L4PieceText.l0]
  rw [if_neg (by omega), List.take_length]
 | succ d ih =>
  intro i hi
  have hlt : i < xs.length := by omega
  have g := hg (cv xs[i]) (List.mem_map.2 ⟨xs[i], List.getElem_mem hlt, rfl⟩)
  have o := ho (cv xs[i]) (List.mem_map.2 ⟨xs[i], List.getElem_mem hlt, rfl⟩)
  unfold goodP at g
  unfold okPc at o
  simp only [cv] at g o
  have lenb : ∀ j, j ≤ xs.length → (txtOf T (((xs.take j).map cv).map pcOf)).length ≤ 8192 * j := by
   intro j
   induction j with
   | zero => intro _; simp [txtOf]
   | succ j ihj =>
    intro hj
    have hlj : j < xs.length := by omega
    have gj := hg (cv xs[j]) (List.mem_map.2 ⟨xs[j], List.getElem_mem hlj, rfl⟩)
    unfold goodP at gj
    simp only [cv] at gj
    have := ihj (by omega)
    rw [List.take_succ_eq_append_getElem hlj, List.map_append, List.map_append, txtOf_app, List.length_append]
    have e : (txtOf T ((([xs[j]] : List S54).map cv).map pcOf)).length ≤ 8192 := by
     simp only [List.map_cons, List.map_nil]
     rw [txtOf_cons]
     simp only [txtOf, List.flatMap_nil, List.append_nil]
     unfold ptext
     rw [List.length_drop, List.length_take]
     simp only [pcOf, cv]; omega
    omega
  have hb := lenb i (by omega)
  refine Ev.step (f := fun k => spec_L4PieceText.l0 k (txtOf T (((xs.take (i + 1)).map cv).map pcOf)) xs (xs.length : Int) ((i + 1 : Nat) : Int) T xs) (fun k => ?_) (ih (i + 1) (by omega))
  simp only [spec_L4PieceText.l0]
  rw [if_pos (by omega), if_pos (by omega), if_pos (by omega), rdI xs i hlt, w64 (x := xs[i].f0.f0 + xs[i].f0.f1) (by omega), w64 (x := (i : Int) + 1) (by omega), if_pos (by omega), if_pos (by omega), if_pos (by omega), if_pos (by rw [List.length_drop, List.length_take]; omega), show (i : Int) + 1 = ((i + 1 : Nat) : Int) by omega]
  congr 1
  rw [List.take_succ_eq_append_getElem hlt, List.map_append, List.map_append, txtOf_app]
  congr 1
  simp only [List.map_cons, List.map_nil]
  rw [txtOf_cons]
  simp only [txtOf, List.flatMap_nil, List.append_nil]
  rfl
theorem ptxt_ev (T : List Int) (xs : List S54) (t : Tree) (h : openV T (xs.map cv) = some t) : Ev (fun k => spec_L4PieceText.f k T xs) (txtOf T (TP.toL t)) := by
 obtain ⟨ok, e, hV, hT, ho⟩ := openV_ok h
 obtain ⟨h1, h2, h3, h4, h5, h6⟩ := grownV_toL hV
 rw [List.length_map] at h4
 unfold spec_L4PieceText.f
 have hl := ptxt_loop T xs hT h4 h5 ho xs.length 0 (Nat.zero_add _)
 rw [e]
 exact Ev.congr (fun k => by simp [txtOf]) hl
theorem rd_at (xs : List Int) (i : Nat) (h : i < xs.length) : rd xs (i : Int) = xs[i] := by
 unfold rd; simp [List.getD, h]
def mk (f : Int → Int) (k : Int) (n : Nat) : List Int := (List.range n).map fun j => f (k + (j : Nat))
theorem mk_length (f : Int → Int) (k : Int) (n : Nat) : (mk f k n).length = n := by simp [mk]
theorem mk_get (f : Int → Int) (k : Int) (n i : Nat) (h : i < n) : rd (mk f k n) (i : Int) = f (k + i) := by
 rw [rd_at _ _ (by simpa [mk] using h)]; simp [mk]

theorem markInt32S_loop (s : Int) (hs : 0 ≤ s ∧ s ≤ 9000000) (xs : List Int) (hn : xs.length ≤ 9000000) (d : Nat) : ∀ i : Nat, i + d = xs.length →
  Ev (fun k => laws_markInt32S.l0 k (mk (fun x => wrap32 (x)) s i ++ xs.drop i) (s + i) (i : Int)) (s + (xs.length : Int), mk (fun x => wrap32 (x)) s xs.length) := by
 induction d with
 | zero =>
  intro i hi
  obtain rfl : i = xs.length := by omega
  refine ev_now fun k => ?_
  simp only [laws_markInt32S.l0]
  rw [if_neg (by simp [mk_length])]
  simp
 | succ d ih =>
  intro i hi
  have hlt : i < xs.length := by omega
  refine Ev.step (f := fun k => laws_markInt32S.l0 k (mk (fun x => wrap32 (x)) s (i + 1) ++ xs.drop (i + 1)) (s + ((i + 1 : Nat) : Int)) ((i + 1 : Nat) : Int)) (fun k => ?_) (ih (i + 1) (by omega))
  simp only [laws_markInt32S.l0]
  rw [if_pos (by simp [mk_length]; omega), if_pos (by omega), w64 (by omega), w64 (by omega)]
  congr 1
  ·rw [Int.toNat_natCast, List.set_append_right _ _ (by simp [mk_length]), mk_length, Nat.sub_self, List.drop_eq_getElem_cons hlt, List.set_cons_zero]
   simp [mk, List.range_succ]
  ·omega
theorem markInt32S_from (s : Int) (hs : 0 ≤ s ∧ s ≤ 9000000) (xs : List Int) (hn : xs.length ≤ 9000000) : Ev (fun k => laws_markInt32S.f k xs s) (s + (xs.length : Int), mk (fun x => wrap32 (x)) s xs.length) := by
 unfold laws_markInt32S.f
 have h := markInt32S_loop s hs xs hn xs.length 0 (by omega)
 exact Ev.congr (fun k => by simp [mk]) h
theorem markInt32S_ev (xs : List Int) (hn : xs.length ≤ 9000000) : Ev (fun k => laws_markInt32S.f k xs 1) (1 + (xs.length : Int), mk (fun x => wrap32 (x)) 1 xs.length) := markInt32S_from 1 (by omega) xs hn

theorem heldInt32S_loop (s : Int) (hs : 0 ≤ s ∧ s ≤ 9000000) (n : Nat) (hn : n ≤ 9000000) (d : Nat) : ∀ i : Nat, i + d = n →
  Ev (fun k => laws_heldInt32S.l0 k (mk (fun x => wrap32 (x)) s n) (s + i) (i : Int)) (s + (n : Int)) := by
 induction d with
 | zero => intro i hi; refine ev_now fun k => ?_; simp only [laws_heldInt32S.l0]; rw [if_neg (by rw [mk_length]; omega)]; simp; omega
 | succ d ih =>
  intro i hi
  refine Ev.step (f := fun k => laws_heldInt32S.l0 k (mk (fun x => wrap32 (x)) s n) (s + ((i + 1 : Nat) : Int)) ((i + 1 : Nat) : Int)) (fun k => ?_) (ih (i + 1) (by omega))
  simp only [laws_heldInt32S.l0]
  rw [if_pos (by rw [mk_length]; omega), if_pos (by omega), w64 (by omega), w64 (by omega), if_pos (by rw [mk_get _ _ _ _ (by omega)])]
  congr 1
  omega
theorem heldInt32S_from (s : Int) (hs : 0 ≤ s ∧ s ≤ 9000000) (n : Nat) (hn : n ≤ 9000000) : Ev (fun k => laws_heldInt32S.f k (mk (fun x => wrap32 (x)) s n) s) (s + (n : Int)) := by
 unfold laws_heldInt32S.f
 exact Ev.congr (fun k => by simp) (heldInt32S_loop s hs n hn n 0 (by omega))
theorem heldInt32S_ev (n : Nat) (hn : n ≤ 9000000) : Ev (fun k => laws_heldInt32S.f k (mk (fun x => wrap32 (x)) 1 n) 1) (1 + (n : Int)) := heldInt32S_from 1 (by omega) n hn
/-! marks written into items, and read back -/
theorem rd_set_self (L : List S54) (i : Nat) (x : S54) (h : i < L.length) : rd_T54 (L.set i x) (i : Int) = x := by
 rw [rdI _ i (by rw [List.length_set]; exact h), List.getElem_set_self]
def mi (s : Int) (n : Nat) : List S54 := (List.range n).map fun (j : Nat) => ⟨⟨s + 4 * (j : Int), s + 4 * (j : Int) + 1, s + 4 * (j : Int) + 2⟩, s + 4 * (j : Int) + 3⟩
theorem mi_length (s : Int) (n : Nat) : (mi s n).length = n := by simp [mi]
theorem mi_get (s : Int) (n i : Nat) (h : i < n) : rd_T54 (mi s n) (i : Int) = ⟨⟨s + 4 * (i : Int), s + 4 * (i : Int) + 1, s + 4 * (i : Int) + 2⟩, s + 4 * (i : Int) + 3⟩ := by
 rw [rdI _ i (by rw [mi_length]; exact h)]; simp [mi]
theorem mi_succ (s : Int) (n : Nat) : mi s (n + 1) = mi s n ++ [⟨⟨s + 4 * (n : Int), s + 4 * (n : Int) + 1, s + 4 * (n : Int) + 2⟩, s + 4 * (n : Int) + 3⟩] := by
 simp [mi, List.range_succ]
theorem markItemS_loop (s : Int) (hs : 0 ≤ s ∧ s ≤ 9000000) (xs : List S54) (hn : xs.length ≤ 9000000) (d : Nat) : ∀ i : Nat, i + d = xs.length →
  Ev (fun k => laws_markItemS.l0 k (mi s i ++ xs.drop i) (s + 4 * (i : Int)) (i : Int)) (s + 4 * (xs.length : Int), mi s xs.length) := by
 induction d with
 | zero =>
  intro i hi
  obtain rfl : i = xs.length := by omega
  refine ev_now fun k => ?_
  simp only [laws_markItemS.l0]
  rw [if_neg (by simp [mi_length])]
  simp
 | succ d ih =>
  intro i hi
  have hlt : i < xs.length := by omega
  have hL : i < (mi s i ++ xs.drop i).length := by rw [List.length_append, mi_length, List.length_drop]; omega
  refine Ev.step (f := fun k => laws_markItemS.l0 k (mi s (i + 1) ++ xs.drop (i + 1)) (s + 4 * ((i + 1 : Nat) : Int)) ((i + 1 : Nat) : Int)) (fun k => ?_) (ih (i + 1) (by omega))
  simp only [laws_markItemS.l0]
  rw [if_pos (by omega), if_pos (by omega)]
  simp only [Option.bind_some, Int.toNat_natCast]
  rw [w64 (x := (i : Int) + 1) (by omega), w64 (x := s + 4 * (i : Int) + 1) (by omega), w64 (x := s + 4 * (i : Int) + 1 + 1) (by omega), w64 (x := s + 4 * (i : Int) + 1 + 1 + 1) (by omega), w64 (x := s + 4 * (i : Int) + 1 + 1 + 1 + 1) (by omega)]
  have hset : ∀ x : S54, (mi s i ++ xs.drop i).set i x = mi s i ++ (x :: xs.drop (i + 1)) := fun x => by
   rw [List.set_append_right _ _ (by rw [mi_length]; exact Nat.le_refl _), mi_length, Nat.sub_self, List.drop_eq_getElem_cons hlt, List.set_cons_zero]
  have hget : ∀ x : S54, rd_T54 (mi s i ++ (x :: xs.drop (i + 1))) (i : Int) = x := fun x => by
   rw [← hset x]; exact rd_set_self _ i x hL
  have hset2 : ∀ x y : S54, (mi s i ++ (x :: xs.drop (i + 1))).set i y = mi s i ++ (y :: xs.drop (i + 1)) := fun x y => by
   rw [List.set_append_right _ _ (by rw [mi_length]; exact Nat.le_refl _), mi_length, Nat.sub_self, List.set_cons_zero]
  rw [hset, hget, hset2, hget, hset2, hget, hset2, show s + 4 * (i : Int) + 1 + 1 = s + 4 * (i : Int) + 2 by omega, show s + 4 * (i : Int) + 2 + 1 = s + 4 * (i : Int) + 3 by omega, show s + 4 * (i : Int) + 3 + 1 = s + 4 * ((i + 1 : Nat) : Int) by omega, mi_succ, List.append_assoc, List.singleton_append]
  rfl
theorem markTree_from (s : Int) (hs : 0 ≤ s ∧ s ≤ 9000000) (xs : List S54) (hn : xs.length ≤ 9000000) : Ev (fun k => laws_markTree.f k xs s) (s + 4 * (xs.length : Int), mi s xs.length) := by
 unfold laws_markTree.f laws_markItemS.f
 refine Ev.bind (a := (s + 4 * (xs.length : Int), mi s xs.length)) ?_ (ev_const fun _ => rfl)
 have h := markItemS_loop s hs xs hn xs.length 0 (by omega)
 exact Ev.congr (fun k => by simp [mi]) h
theorem markPB_ev (T : List Int) (xs : List S54) (h1 : T.length ≤ 1048576) (h2 : xs.length ≤ 1048576) : Ev (fun k => laws_markPieceBuf.f k T xs 1) (1 + (T.length : Int) + 4 * (xs.length : Int), mk (fun x => wrap32 (x)) 1 T.length, mi (1 + (T.length : Int)) xs.length) := by
 unfold laws_markPieceBuf.f
 exact Ev.bind (markInt32S_ev T (by omega)) (Ev.bind (markTree_from _ (by omega) xs (by omega)) (ev_const fun _ => rfl))
theorem spec_ev (T : List Int) (xs : List S54) (lo hi : Int) : Ev (fun k => spec_PieceSlice.f k T xs lo hi) (pieceSliceV T (xs.map cv) lo hi) := by
 unfold spec_PieceSlice.f pieceSliceV
 refine Ev.bind (pvalid_ev T xs) ?_
 cases hV : openV T (xs.map cv) with
 | none => exact ev_const fun k => by rw [if_neg (by simp)]
 | some t =>
  obtain ⟨ok, -⟩ := openV_ok hV
  have hl := (tree_txt T t ok.ins ok.brk).1
  have hs := ok.sum
  refine Ev.congr (fun k => if_pos (by simp)) ?_
  refine Ev.bind (ptxt_ev T xs t hV) ?_
  simp only
  generalize txtOf T (TP.toL t) = X at hl
  by_cases c1 : lo < 0
  ·rw [if_neg (show ¬ (0 ≤ lo ∧ lo ≤ hi ∧ hi ≤ rl t) by omega)]
   exact ev_const fun k => if_pos c1
  refine Ev.congr (fun k => if_neg c1) ?_
  by_cases c2 : hi < lo
  ·rw [if_neg (show ¬ (0 ≤ lo ∧ lo ≤ hi ∧ hi ≤ rl t) by omega)]
   exact ev_const fun k => if_pos c2
  refine Ev.congr (fun k => if_neg c2) ?_
  by_cases c3 : hi > (X.length : Int)
  ·rw [if_neg (show ¬ (0 ≤ lo ∧ lo ≤ hi ∧ hi ≤ rl t) by omega)]
   exact ev_const fun k => if_pos c3
  refine Ev.congr (fun k => if_neg c3) ?_
  rw [if_pos (show 0 ≤ lo ∧ lo ≤ hi ∧ hi ≤ rl t by omega)]
  exact ev_const fun k => by
   simp only [Option.bind_some]
   rw [if_pos (by omega), if_pos (by omega), if_pos (by omega), if_pos (by simp only [List.length_nil, List.length_take, List.length_drop]; omega), List.nil_append]
theorem sliceV_len (T : List Int) (xs : List It) (lo hi : Int) : (pieceSliceV T xs lo hi).1.length ≤ 8192 := by
 unfold pieceSliceV
 cases hV : openV T xs with
 | none => simp
 | some t =>
  obtain ⟨ok, -⟩ := openV_ok hV
  have hl := (tree_txt T t ok.ins ok.brk).1
  have hs := ok.sum
  simp only
  split
  ·simp only [List.length_drop, List.length_take]; omega
  ·simp
theorem law (T : List Int) (xs : List S128) (lo hi : Int) (hT : T.length ≤ 9223372036854775807) (hm : xs.length ≤ 9223372036854775807) : ∃ k, laws_FnExactPieceSlice.f k T xs lo hi = some true := by
 refine Ev.rounds (g := fun k => laws_FnExactPieceSlice.f k T xs lo hi) ?_
 unfold laws_FnExactPieceSlice.f
 obtain ⟨v, hv, hv0⟩ := szPB_is T xs hT hm
 refine Ev.bind (ev_const fun _ => hv) ?_
 by_cases c : v < 0
 ·exact ev_const fun k => if_pos c
 obtain ⟨h1, h2⟩ := hv0 (by omega)
 have hs := spec_ev T (xs.map tv) lo hi
 have hi' : impl_PieceSlice.f T (xs.map tv) lo hi = some (pieceSliceV T ((xs.map tv).map cv) lo hi) := by unfold impl_PieceSlice.f; rw [if_pos ⟨by omega, by rw [List.length_map]; omega⟩]
 have hl := sliceV_len T ((xs.map tv).map cv) lo hi
 generalize pieceSliceV T ((xs.map tv).map cv) lo hi = R at hs hi' hl
 obtain ⟨ys, r2⟩ := R
 simp only at hl
 refine Ev.congr (fun k => if_neg c) ?_
 refine Ev.bind (toPB_ev T xs h1 h2) ?_
 refine Ev.bind hs ?_
 refine Ev.bind (toPB_ev T xs h1 h2) ?_
 refine Ev.bind (ev_const fun _ => hi') ?_
 refine Ev.bind (eqI_ev ys (by omega)) ?_
 refine Ev.congr (fun k => if_pos rfl) ?_
 refine Ev.step (fun k => by simp only [laws_FnExactPieceSlice.j0]; rw [if_neg (by simp)]) ?_
 refine Ev.bind (toPB_ev T xs h1 h2) ?_
 refine Ev.bind (eqPB_ev T (xs.map tv) (by omega) (by rw [List.length_map]; omega)) ?_
 refine Ev.congr (fun k => if_pos rfl) ?_
 refine Ev.bind (markPB_ev T (xs.map tv) h1 (by rw [List.length_map]; omega)) ?_
 refine Ev.congr (fun k => if_neg (by dsimp only; omega)) ?_
 refine Ev.bind (eqI_ev ys (by omega)) ?_
 refine Ev.congr (fun k => if_pos rfl) ?_
 refine Ev.step (fun k => by simp only [laws_FnExactPieceSlice.j1]; rw [if_neg (by simp)]) ?_
 refine Ev.bind (markInt32S_ev ys (by omega)) ?_
 refine Ev.bind (heldInt32S_ev ys.length (by omega)) ?_
 refine Ev.congr (fun k => if_neg (by omega)) ?_
 refine Ev.congr (fun k => if_pos rfl) ?_
 refine Ev.bind (toPB_ev T xs h1 h2) ?_
 refine Ev.bind (ev_const fun _ => hi') ?_
 refine Ev.bind (eqI_ev ys (by omega)) ?_
 refine Ev.congr (fun k => if_pos rfl) ?_
 refine Ev.step (fun k => by simp only [laws_FnExactPieceSlice.j2]; rw [if_neg (by simp)]) ?_
 refine Ev.bind (heldInt32S_ev ys.length (by omega)) ?_
 refine Ev.congr (fun k => if_neg (by omega)) ?_
 exact ev_const fun k => if_pos rfl
end Go.Proofs.YtciabhncmdpeeaaDoor.PureFnExactPieceSlice
