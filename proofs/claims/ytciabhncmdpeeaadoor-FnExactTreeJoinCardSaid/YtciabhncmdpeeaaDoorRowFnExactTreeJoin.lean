/- The row of the law FnExactTreeJoin: for every input it tells true, and its arguments read as before; and its tied card. Condition: errors.errorType reads as laid (tied to the program's text). -/
import Derived.Test.YtciabhncmdpeeaaDoorRows
import Derived.Test.YtciabhncmdpeeaaDoorTie
import Derived.Test.YtciabhncmdpeeaaDoorCards
import Derived.Test.YtciabhncmdpeeaaDoorQFnExactTreeJoinx10
import Derived.Test.YtciabhncmdpeeaaDoorEr0
import Derived.ChangeSlices
import Derived.WalkKit
import Derived.ProofKit
import Derived.OpenShut
import Derived.ShutString
import Derived.ChangeOld
import Derived.Below
import Derived.SizedLaws
import Derived.ChangeSame
import Derived.ChangeVars
import Derived.JoinedOf
import Derived.RowKit
import Derived.RowKitTokens
import Derived.LaidLaws
import Derived.LaidHandle
import Derived.Stop.Joined
import Derived.LaidMore
import Derived.SevenTiedAt
import Derived.Lib.SmallJoins
import Derived.Deep.Slices
import Derived.ChangeArms
namespace Go.Proofs.YtciabhncmdpeeaaDoor.PureFnExactTreeJoin
open Go Go.RowKit Go.Proofs.YtciabhncmdpeeaaDoor.QFnExactTreeJoin Go.Proofs.YtciabhncmdpeeaaDoorW.PrintWords Go.Proofs.YtciabhncmdpeeaaDoorW.PrintLast
theorem w64 {x : Int} (h : -9223372036854775808 ≤ x ∧ x ≤ 9223372036854775807) : wrap64 x = x := by unfold wrap64; omega
theorem ev_now {α : Type} {g : Nat → Option α} {r : α} (h : ∀ k, g (k + 1) = some r) : Ev g r :=
 ⟨1, fun k hk => by obtain ⟨m, rfl⟩ : ∃ m, k = m + 1 := ⟨k - 1, by omega⟩; exact h m⟩
theorem ev_const {α : Type} {g : Nat → Option α} {r : α} (h : ∀ k, g k = some r) : Ev g r := ⟨0, fun k _ => h k⟩
theorem rdI (xs : List S54) (i : Nat) (h : i < xs.length) : rd_T54 xs (i : Int) = xs[i] := by unfold rd_T54; simp [List.getD, h]
theorem rdL (xs : List S128) (i : Nat) (h : i < xs.length) : rd_T128 xs (i : Int) = xs[i] := by unfold rd_T128; simp [List.getD, h]
def tv (x : S128) : S54 := ⟨⟨x.f0.f0, x.f0.f1, x.f0.f2⟩, x.f1⟩
theorem toItemS_loop (xs : List S128) (hn : xs.length ≤ 1048576) (d : Nat) : ∀ i : Nat, i + d = xs.length →
  Ev (fun k => laws_toItemS.l0 k xs ((xs.take i).map tv ++ List.replicate d z54) (i : Int)) (xs.map tv) := by
 induction d with
 | zero =>
  intro i hi
  obtain rfl : i = xs.length := by omega
  refine ev_now fun k => ?_
  simp only [laws_toItemS.l0]
  rw [if_neg (by omega)]
  simp
 | succ d ih =>
  intro i hi
  have hlt : i < xs.length := by omega
  refine Ev.step (f := fun k => laws_toItemS.l0 k xs ((xs.take (i + 1)).map tv ++ List.replicate d z54) ((i + 1 : Nat) : Int)) (fun k => ?_) (ih (i + 1) (by omega))
  simp only [laws_toItemS.l0, laws_toItem.f, laws_toPiece.f, Option.bind_some]
  rw [if_pos (by omega), if_pos (by omega), if_pos (by simp; omega), w64 (by omega)]
  congr 1
  rw [rdL xs i hlt, Int.toNat_natCast, List.set_append_right _ _ (by simp; omega)]
  rw [show i - ((xs.take i).map tv).length = 0 by simp; omega, List.replicate_succ, List.set_cons_zero, List.take_succ_eq_append_getElem hlt, List.map_append, List.append_assoc]; rfl
theorem toTree_ev (xs : List S128) (hn : xs.length ≤ 1048576) : Ev (fun k => laws_toTree.f k xs) (xs.map tv) := by
 unfold laws_toTree.f
 refine Ev.bind (a := xs.map tv) ?_ (ev_const fun _ => rfl)
 unfold laws_toItemS.f
 refine Ev.congr (fun k => by rw [if_pos (by omega), if_pos (by omega)]) ?_
 have h := toItemS_loop xs hn xs.length 0 (by omega)
 simpa using h
theorem eqItem_is (x : S54) : laws_eqItem.f x.f0.f0 x.f0.f1 x.f0.f2 x.f1 x.f0.f0 x.f0.f1 x.f0.f2 x.f1 = some true := by
 unfold laws_eqItem.f laws_eqPiece.f
 simp
theorem eqItemS_loop (xs : List S54) (hn : xs.length ≤ 9000000) (d : Nat) : ∀ i : Nat, i + d = xs.length →
  Ev (fun k => laws_eqItemS.l0 k xs xs (i : Int)) true := by
 induction d with
 | zero => intro i hi; refine ev_now fun k => ?_; simp only [laws_eqItemS.l0]; rw [if_neg (by omega)]
 | succ d ih =>
  intro i hi
  refine Ev.step (f := fun k => laws_eqItemS.l0 k xs xs ((i + 1 : Nat) : Int)) (fun k => ?_) (ih (i + 1) (by omega))
  simp only [laws_eqItemS.l0]
  rw [if_pos (by omega), if_pos (by omega), if_pos (by omega), w64 (by omega), eqItem_is]; rfl
theorem eqTree_ev (xs : List S54) (hn : xs.length ≤ 9000000) : Ev (fun k => laws_eqTree.f k xs xs) true := by
 unfold laws_eqTree.f
 refine Ev.bind (a := true) ?_ (ev_const fun _ => if_pos rfl)
 unfold laws_eqItemS.f
 exact Ev.congr (fun k => if_pos rfl) (eqItemS_loop xs hn xs.length 0 (by omega))
theorem szTree_is (xs : List S128) (h : xs.length ≤ 1048576) : ∃ v, laws_szTree.f xs 1048576 = some v ∧ 0 ≤ v := by
 unfold laws_szTree.f laws_szItemS.f
 refine ⟨1048576 - (xs.length : Int), ?_, by omega⟩
 rw [w64 (by omega), if_neg (by omega)]
 simp only [Option.bind_some]
 rw [if_neg (by omega)]
theorem szTree_big (xs : List S128) (h : 1048576 < xs.length) (hm : xs.length ≤ 9223372036854775807) : laws_szTree.f xs 1048576 = some (-1) := by
 unfold laws_szTree.f laws_szItemS.f
 rw [w64 (by omega), if_pos (by omega)]
 rfl
/-! the specification's validity is the program's -/
theorem cv_rd (xs : List S54) (i : Nat) : QBase.rd_T54 (xs.map cv) (i : Int) = cv (rd_T54 xs (i : Int)) := by
 unfold QBase.rd_T54 rd_T54
 simp only [Int.toNat_natCast, List.getD, List.getElem?_map]
 cases xs[i]? <;> rfl
theorem pieceOk_is (x : S54) : spec_l2PieceOk.f x.f0.f0 x.f0.f1 x.f0.f2 = some (decide (goodP (cv x))) := by
 have no : ¬ goodP (cv x) → some false = some (decide (goodP (cv x))) := fun h => congrArg some (decide_eq_false h).symm
 unfold spec_l2PieceOk.f
 by_cases c1 : x.f0.f1 < 1
 ·rw [if_pos c1]; exact no (fun h => by unfold goodP cv at h; simp only at h; omega)
 rw [if_neg c1]
 by_cases c2 : x.f0.f1 > 8192
 ·rw [if_pos c2]; exact no (fun h => by unfold goodP cv at h; simp only at h; omega)
 rw [if_neg c2]
 by_cases c3 : x.f0.f0 < 0
 ·rw [if_pos c3]; exact no (fun h => by unfold goodP cv at h; simp only at h; omega)
 rw [if_neg c3]
 by_cases c4 : x.f0.f0 > 220000
 ·rw [if_pos c4]; exact no (fun h => by unfold goodP cv at h; simp only at h; omega)
 rw [if_neg c4, w64 (by omega)]
 by_cases c5 : x.f0.f0 + x.f0.f1 ≤ 220000
 ·rw [if_pos c5]
  by_cases c6 : x.f0.f2 ≥ 0
  ·rw [if_pos c6]; exact congrArg some (decide_eq_decide.2 (by unfold goodP cv; simp only; omega))
  ·rw [if_neg c6]; exact no (fun h => by unfold goodP cv at h; simp only at h; omega)
 ·rw [if_neg c5]; exact no (fun h => by unfold goodP cv at h; simp only at h; omega)
theorem total_loop (xs : List S54) (hn : xs.length ≤ 8192) (hg : AllGood (xs.map cv)) (d : Nat) : ∀ i : Nat, i + d = xs.length →
  Ev (fun k => spec_l2Total.l0 k (sumL ((xs.take i).map cv)) xs (xs.length : Int) (i : Int)) (sumL (xs.map cv)) := by
 induction d with
 | zero =>
  intro i hi
  obtain rfl : i = xs.length := by omega
  refine ev_now fun k => ?_
  simp only [spec_l2Total.l0]
  rw [if_neg (by omega), List.take_length]
 | succ d ih =>
  intro i hi
  have hlt : i < xs.length := by omega
  have hb := sumL_bound ((xs.take i).map cv) (fun y hy => hg y (by
   obtain ⟨z, hz, rfl⟩ := List.mem_map.1 hy
   exact List.mem_map.2 ⟨z, List.mem_of_mem_take hz, rfl⟩))
  have hx := hg (cv xs[i]) (List.mem_map.2 ⟨xs[i], List.getElem_mem hlt, rfl⟩)
  unfold goodP at hx
  simp only [List.length_map, List.length_take] at hb
  have e : sumL ((xs.take (i + 1)).map cv) = sumL ((xs.take i).map cv) + xs[i].f0.f1 := by
   rw [List.take_succ_eq_append_getElem hlt, List.map_append, sumL_app]; simp [sumL, cv]
  refine Ev.step (f := fun k => spec_l2Total.l0 k (sumL ((xs.take (i + 1)).map cv)) xs (xs.length : Int) ((i + 1 : Nat) : Int)) (fun k => ?_) (ih (i + 1) (by omega))
  simp only [spec_l2Total.l0]
  simp only [cv] at hx
  rw [if_pos (by omega), if_pos (by omega), if_pos (by omega), rdI xs i hlt, w64 (by omega), w64 (by omega), e]; rfl
theorem total_ev (xs : List S54) (hn : xs.length ≤ 8192) (hg : AllGood (xs.map cv)) : Ev (fun k => spec_l2Total.f k xs) (sumL (xs.map cv)) := by
 unfold spec_l2Total.f
 exact total_loop xs hn hg xs.length 0 (by omega)
def shapeV (n : Nat) (ys : List It) (level : Int) : Int := match rootedV n ys level with | some t => (TP.hgt t : Int) | none => -1
theorem seg_cons (xs : List S54) (lo hi : Nat) (h : lo < hi) (hh : hi ≤ xs.length) : ((xs.map cv).take hi).drop lo = cv (rd_T54 xs (lo : Int)) :: ((xs.map cv).take hi).drop (lo + 1) := by
 rw [rd_drop _ lo (by rw [List.length_take, List.length_map]; omega)]
 congr 1
 rw [← cv_rd]
 unfold QBase.rd_T54
 simp only [Int.toNat_natCast, List.getD, List.getElem?_take]
 rw [if_pos h]
theorem shapeV_le (n : Nat) (ys : List It) (level : Int) : -1 ≤ shapeV n ys level ∧ shapeV n ys level ≤ ys.length := by
 unfold shapeV
 cases h : rootedV n ys level with
 | none => simp only; omega
 | some t =>
  have := rootedV_cnt _ _ _ _ h
  have := TP.hgt_le t
  simp only; omega
def shR (xs : List S54) (n lo hi : Nat) (level : Int) : Option Int → Int
 | none => -1
 | some root => if root < 0 then -1 else
     if shapeV n (((xs.map cv).take (lo + root.toNat)).drop lo) (level + 1) < 0 then -1 else if shapeV n (((xs.map cv).take hi).drop (lo + root.toNat + 1)) (level + 1) < 0 then -1
     else if shapeV n (((xs.map cv).take (lo + root.toNat)).drop lo) (level + 1) ≤ shapeV n (((xs.map cv).take hi).drop (lo + root.toNat + 1)) (level + 1) + 1 ∧ shapeV n (((xs.map cv).take hi).drop (lo + root.toNat + 1)) (level + 1) ≤ shapeV n (((xs.map cv).take (lo + root.toNat)).drop lo) (level + 1) + 1
      then (if shapeV n (((xs.map cv).take hi).drop (lo + root.toNat + 1)) (level + 1) > shapeV n (((xs.map cv).take (lo + root.toNat)).drop lo) (level + 1) then shapeV n (((xs.map cv).take hi).drop (lo + root.toNat + 1)) (level + 1) + 1 else shapeV n (((xs.map cv).take (lo + root.toNat)).drop lo) (level + 1) + 1) else -1
theorem shape_ev (xs : List S54) (hx : xs.length ≤ 8192) (n : Nat) : ∀ (lo hi : Nat) (level : Int), lo ≤ hi → hi ≤ xs.length → hi - lo < n → 0 ≤ level → level ≤ 1000 →
  Ev (fun k => spec_l2Shape.f k xs (lo : Int) (hi : Int) level) (shapeV n (((xs.map cv).take hi).drop lo) level) := by
 induction n with
 | zero => intro lo hi level h1 h2 h3; omega
 | succ n ih =>
  intro lo hi level h1 h2 h3 l0 l1
  have hlen : ((((xs.map cv).take hi).drop lo)).length = hi - lo := by rw [List.length_drop, List.length_take, List.length_map]; omega
  by_cases c0 : hi ≤ lo
  ·refine ev_now fun k => ?_
   simp only [spec_l2Shape.f]
   rw [if_pos (by omega)]
   unfold shapeV
   have e : rootedV (n + 1) (((xs.map cv).take hi).drop lo) level = some .nil := by simp only [rootedV]; rw [if_pos (by omega)]
   rw [e]; rfl
  by_cases c1 : 40 < level
  ·refine ev_now fun k => ?_
   simp only [spec_l2Shape.f]
   rw [if_neg (by omega), if_pos c1]
   unfold shapeV
   have e : rootedV (n + 1) (((xs.map cv).take hi).drop lo) level = none := by simp only [rootedV]; rw [if_neg (by omega), if_pos c1]
   rw [e]
  refine Ev.step (fun k => by simp only [spec_l2Shape.f]; rw [if_neg (by omega), if_neg c1]) ?_
  have hV : shapeV (n + 1) (((xs.map cv).take hi).drop lo) level = shR xs n lo hi level (scanL level (((xs.map cv).take hi).drop lo) 0 (-1)) := by
   have e0 : ∀ o, rootedV (n + 1) (((xs.map cv).take hi).drop lo) level = o → shapeV (n + 1) (((xs.map cv).take hi).drop lo) level = match o with | some t => (TP.hgt t : Int) | none => -1 := by
    intro o h; unfold shapeV; rw [h]
   rw [e0 _ (by simp only [rootedV]; rw [if_neg (by omega), if_neg c1])]
   cases hs : scanL level (((xs.map cv).take hi).drop lo) 0 (-1) with
   | none => rfl
   | some root =>
    simp only [shR]
    by_cases hr : root < 0
    ·rw [if_pos hr, if_pos hr]
    ·rw [if_neg hr, if_neg hr]
     have hle := (scanL_le level _ 0 (-1) (by omega) (by omega) root hs).2
     rw [hlen] at hle
     have e1 : (((xs.map cv).take hi).drop lo).take root.toNat = ((xs.map cv).take (lo + root.toNat)).drop lo := by
      rw [List.take_drop, List.take_take]; congr 2; omega
     have e2 : (((xs.map cv).take hi).drop lo).drop (root.toNat + 1) = ((xs.map cv).take hi).drop (lo + root.toNat + 1) := by
      rw [List.drop_drop]; congr 1
     rw [e1, e2]
     unfold shapeV
     cases hl : rootedV n (((xs.map cv).take (lo + root.toNat)).drop lo) (level + 1) with
     | none => simp
     | some l =>
      cases hr2 : rootedV n (((xs.map cv).take hi).drop (lo + root.toNat + 1)) (level + 1) with
      | none => simp
      | some r =>
       simp only
       have k1 : ¬ ((TP.hgt l : Int) < 0) := by omega
       have k2 : ¬ ((TP.hgt r : Int) < 0) := by omega
       rw [if_neg k1, if_neg k2]
       by_cases hb : TP.hgt l ≤ TP.hgt r + 1 ∧ TP.hgt r ≤ TP.hgt l + 1
       ·have hb' : (TP.hgt l : Int) ≤ TP.hgt r + 1 ∧ (TP.hgt r : Int) ≤ TP.hgt l + 1 := by omega
        rw [if_pos hb, if_pos hb']
        simp only [TP.hgt]
        split <;> omega
       ·have hb' : ¬ ((TP.hgt l : Int) ≤ TP.hgt r + 1 ∧ (TP.hgt r : Int) ≤ TP.hgt l + 1) := by omega
        rw [if_neg hb, if_neg hb']
  rw [hV]
  generalize hR : scanL level (((xs.map cv).take hi).drop lo) 0 (-1) = R
  have hbound : ∀ root, R = some root → root < ((hi - lo : Nat) : Int) ∧ -1 ≤ root := by
   intro root h
   rw [h] at hR
   have := scanL_le level _ 0 (-1) (by omega) (by omega) root hR
   rw [hlen] at this; omega
  have main : ∀ (d i : Nat) (rel : Int), i + d = hi → lo ≤ i → -1 ≤ rel → rel < ((i - lo : Nat) : Int) → scanL level (((xs.map cv).take hi).drop i) (i - lo) rel = R →
    Ev (fun k => spec_l2Shape.l0 k xs (lo : Int) (hi : Int) level (if rel < 0 then -1 else (lo : Int) + rel) (i : Int)) (shR xs n lo hi level R) := by
   intro d
   induction d with
   | zero =>
    intro i rel hi' hlo hr0 hr1 hsc
    obtain rfl : i = hi := by omega
    have e : ((xs.map cv).take i).drop i = [] := List.drop_eq_nil_of_le (by rw [List.length_take]; omega)
    rw [e] at hsc
    simp only [scanL] at hsc
    subst hsc
    simp only [shR]
    by_cases hneg : rel < 0
    ·rw [if_pos hneg, if_pos hneg]
     refine ev_now fun k => ?_
     simp only [spec_l2Shape.l0]
     rw [if_neg (by omega), if_pos (by omega)]
    ·rw [if_neg hneg]
     obtain ⟨ρ, rfl⟩ : ∃ ρ : Nat, rel = ρ := ⟨rel.toNat, by omega⟩
     simp only [Int.toNat_natCast]
     refine Ev.step (fun k => by simp only [spec_l2Shape.l0]; rw [if_neg (by omega), if_neg (by omega)]) ?_
     have hl := ih lo (lo + ρ) (level + 1) (by omega) (by omega) (by omega) (by omega) (by omega)
     have hr := ih (lo + ρ + 1) i (level + 1) (by omega) (by omega) (by omega) (by omega) (by omega)
     have bl := shapeV_le n (((xs.map cv).take (lo + ρ)).drop lo) (level + 1)
     have br := shapeV_le n (((xs.map cv).take i).drop (lo + ρ + 1)) (level + 1)
     simp only [List.length_drop, List.length_take, List.length_map] at bl br
     generalize shapeV n (((xs.map cv).take (lo + ρ)).drop lo) (level + 1) = a at hl bl
     generalize shapeV n (((xs.map cv).take i).drop (lo + ρ + 1)) (level + 1) = b at hr br
     refine Ev.congr (f := fun k => (spec_l2Shape.f k xs (lo : Int) ((lo + ρ : Nat) : Int) (level + 1)).bind fun t108 => (if t108 < 0 then (some (-1)) else ((spec_l2Shape.f k xs ((lo + ρ + 1 : Nat) : Int) (i : Int) (level + 1)).bind fun t109 => (if t109 < 0 then (spec_l2Shape.j1 k t108 t109 true) else (if (wrap64 (t108 - t109)) > 1 then (spec_l2Shape.j1 k t108 t109 true) else (spec_l2Shape.j1 k t108 t109 (decide ((wrap64 (t109 - t108)) > 1)))))))) (fun k => by
      rw [w64 (x := level + 1) (by omega), w64 (x := (lo : Int) + (ρ : Int) + 1) (by omega)]; rfl) ?_
     refine Ev.bind hl ?_
     by_cases ca : a < 0
     ·rw [if_pos ca]; exact ev_const fun k => if_pos ca
     ·rw [if_neg ca]
      refine Ev.congr (fun k => if_neg ca) ?_
      refine Ev.bind hr ?_
      have J : ∀ t, Ev (fun k => spec_l2Shape.j1 k a b t) (if t = true then -1 else if b > a then b + 1 else a + 1) := by
       intro t
       refine ev_now fun k => ?_
       simp only [spec_l2Shape.j1]
       rw [w64 (by omega), w64 (by omega)]
       split
       ·rfl
       ·split <;> rfl
      by_cases cb : b < 0
      ·rw [if_pos cb]
       have := J true
       rw [if_pos rfl] at this
       exact Ev.congr (fun k => if_pos cb) this
      ·rw [if_neg cb]
       refine Ev.congr (fun k => if_neg cb) ?_
       by_cases cd : a - b > 1
       ·have nb : ¬ (a ≤ b + 1 ∧ b ≤ a + 1) := by omega
        rw [if_neg nb]
        have := J true
        rw [if_pos rfl] at this
        exact Ev.congr (fun k => if_pos (by rw [w64 (by omega)]; exact cd)) this
       ·refine Ev.congr (fun k => by rw [if_neg (by rw [w64 (by omega)]; exact cd), w64 (x := b - a) (by omega)]) ?_
        by_cases ce : b - a > 1
        ·have nb : ¬ (a ≤ b + 1 ∧ b ≤ a + 1) := by omega
         rw [if_neg nb]
         have := J (decide (b - a > 1))
         rw [if_pos (decide_eq_true ce)] at this
         exact this
        ·have nb : a ≤ b + 1 ∧ b ≤ a + 1 := by omega
         rw [if_pos nb]
         have := J (decide (b - a > 1))
         rw [if_neg (by rw [decide_eq_false ce]; simp)] at this
         exact this
   | succ d ihd =>
    intro i rel hi' hlo hr0 hr1 hsc
    have hlt : i < hi := by omega
    rw [seg_cons xs i hi hlt h2] at hsc
    simp only [scanL] at hsc
    have hx1 : (cv (rd_T54 xs (i : Int))).f1 = (rd_T54 xs (i : Int)).f1 := rfl
    rw [hx1] at hsc
    generalize hy : (rd_T54 xs (i : Int)).f1 = y at hsc
    by_cases d1 : y < level
    ·rw [if_pos (.inl d1)] at hsc
     subst hsc
     simp only [shR]
     refine ev_now fun k => ?_
     simp only [spec_l2Shape.l0, hy]
     rw [if_pos (by omega), if_pos (by omega), if_pos (by omega), if_pos d1]
    ·by_cases d2 : y = level
     ·by_cases d3 : 0 ≤ rel
      ·rw [if_pos (.inr ⟨d2, d3⟩)] at hsc
       subst hsc
       simp only [shR]
       refine ev_now fun k => ?_
       simp only [spec_l2Shape.l0, hy]
       rw [if_pos (by omega), if_pos (by omega), if_pos (by omega), if_neg d1, if_pos d2, if_pos (by rw [if_neg (by omega)]; omega)]
      ·rw [if_neg (by omega), if_pos d2] at hsc
       have h := ihd (i + 1) (((i - lo : Nat) : Int)) (by omega) (by omega) (by omega) (by omega) (by rw [← hsc]; congr 1; omega)
       refine Ev.step (fun k => ?_) h
       simp only [spec_l2Shape.l0, hy]
       rw [if_pos (by omega), if_pos (by omega), if_pos (by omega), if_neg d1, if_pos d2, if_neg (by rw [if_pos (by omega)]; omega), w64 (by omega), if_neg (by omega)]
       congr 1
       omega
     ·rw [if_neg (by omega), if_neg d2] at hsc
      have h := ihd (i + 1) rel (by omega) (by omega) (by omega) (by omega) (by rw [← hsc]; congr 1; omega)
      refine Ev.step (fun k => ?_) h
      simp only [spec_l2Shape.l0, hy]
      rw [if_pos (by omega), if_pos (by omega), if_pos (by omega), if_neg d1, if_neg d2, w64 (by omega)]
      rfl
  have := main (hi - lo) lo (-1) (by omega) (by omega) (by omega) (by omega) (by rw [Nat.sub_self]; exact hR)
  rw [if_pos (by omega)] at this
  exact this
theorem valid_loop (xs : List S54) (hn : xs.length ≤ 8192) (d : Nat) : ∀ i : Nat, i + d = xs.length → AllGood ((xs.take i).map cv) →
  Ev (fun k => spec_L2Valid.l0 k xs (xs.length : Int) (i : Int) xs) (decide ((grownV (xs.map cv)).isSome = true)) := by
 induction d with
 | zero =>
  intro i hi hg
  obtain rfl : i = xs.length := by omega
  rw [List.take_length] at hg
  refine Ev.step (fun k => by simp only [spec_L2Valid.l0]; rw [if_neg (by omega)]) ?_
  refine Ev.bind (total_ev xs hn hg) ?_
  unfold grownV
  rw [List.length_map]
  by_cases cs : sumL (xs.map cv) ≤ 8192
  ·rw [if_pos ⟨hn, hg, cs⟩]
   refine Ev.congr (fun k => if_pos cs) ?_
   have hsh := shape_ev xs hn (xs.length + 1) 0 xs.length 0 (by omega) (by omega) (by omega) (by omega) (by omega)
   rw [List.drop_zero, List.take_of_length_le (by rw [List.length_map]; omega)] at hsh
   refine Ev.bind hsh ?_
   refine ev_const fun _ => ?_
   unfold shapeV
   cases rootedV (xs.length + 1) (xs.map cv) 0 with
   | none => rfl
   | some t => simp
  ·rw [if_neg (fun h => cs h.2.2)]
   exact ev_const fun k => by rw [if_neg cs]; rfl
 | succ d ih =>
  intro i hi hg
  have hlt : i < xs.length := by omega
  refine Ev.step (fun k => by simp only [spec_L2Valid.l0]; rw [if_pos (by omega), if_pos (by omega), if_pos (by omega), pieceOk_is, Option.bind_some, w64 (by omega)]) ?_
  have ex : rd_T54 xs (i : Int) = xs[i] := rdI xs i hlt
  rw [ex]
  by_cases gd : goodP (cv xs[i])
  ·refine Ev.congr (fun k => if_pos (decide_eq_true gd)) ?_
   exact ih (i + 1) (by omega) (fun y hy => by
    rw [List.take_succ_eq_append_getElem hlt, List.map_append] at hy
    rcases List.mem_append.1 hy with hy | hy
    ·exact hg y hy
    ·simp only [List.map_cons, List.map_nil, List.mem_singleton] at hy
     rw [hy]; exact gd)
  ·refine ev_const fun k => ?_
   rw [if_neg (by rw [decide_eq_false gd]; simp)]
   unfold grownV
   rw [if_neg (fun h => gd (h.2.1 (cv xs[i]) (List.mem_map.2 ⟨xs[i], List.getElem_mem hlt, rfl⟩)))]
   rfl
theorem valid_ev (xs : List S54) : Ev (fun k => spec_L2Valid.f k xs) (decide ((grownV (xs.map cv)).isSome = true)) := by
 unfold spec_L2Valid.f
 by_cases c : (xs.length : Int) > 8192
 ·refine ev_const fun k => ?_
  rw [if_pos c]
  unfold grownV
  rw [if_neg (fun h => by have := h.1; rw [List.length_map] at this; omega)]
  rfl
 ·refine Ev.congr (fun k => if_neg c) ?_
  exact valid_loop xs (by omega) xs.length 0 (by omega) (fun y hy => by simp at hy)
/-! the specification's lists of levels are trees told in order -/
def gx (x : S54) : Pc × Int := itv (cv x)
def mkS (x : Pc × Int) : S54 := ⟨⟨x.1.off, x.1.len, x.1.brk⟩, x.2⟩
theorem mkS_gx (x : S54) : mkS (gx x) = x := rfl
theorem gx_mkS (x : Pc × Int) : gx (mkS x) = x := rfl
theorem of_gx {xs : List S54} {L : List (Pc × Int)} (h : xs.map gx = L) : xs = L.map mkS := by
 subst h; rw [List.map_map]; simp [Function.comp_def, mkS_gx]
theorem map_gx_mkS (L : List (Pc × Int)) : (L.map mkS).map gx = L := by rw [List.map_map]; simp [Function.comp_def, gx_mkS]
theorem rd_lv (xs : List S54) (i : Nat) (h : i < xs.length) : (rd_T54 xs (i : Int)).f1 = TP.lv (xs.map gx) i := by
 rw [rdI xs i h]; unfold TP.lv; rw [List.getElem?_map, List.getElem?_eq_getElem h]; rfl
def Bd (L : List (Pc × Int)) : Prop := L.length ≤ 20000 ∧ ∀ j, j < L.length → -100000 ≤ TP.lv L j ∧ TP.lv L j ≤ 100000
structure IsRange (L : List (Pc × Int)) (i lo hi : Nat) : Prop where
 a : lo ≤ i
 b : i < hi
 c : hi ≤ L.length
 d : ∀ j, lo ≤ j → j < i → TP.lv L i < TP.lv L j
 e : 0 < lo → TP.lv L (lo - 1) ≤ TP.lv L i
 f : ∀ j, i < j → j < hi → TP.lv L i < TP.lv L j
 g : hi < L.length → TP.lv L hi ≤ TP.lv L i
theorem range_of {L A B : List (Pc × Int)} {l r : Tree} {v : Pc} {k : Int} (h : TP.Seg L A (.node l v r) k B) : IsRange L (A.length + TP.cnt l) A.length (A.length + (TP.cnt l + TP.cnt r + 1)) := by
 have hl := h.len
 simp only [TP.cnt] at hl
 refine ⟨by omega, by omega, by omega, fun j a b => ?_, fun h0 => ?_, fun j a b => ?_, fun h0 => ?_⟩
 ·rw [h.root]; exact h.inL j a b
 ·rw [h.root]; have := h.before h0; omega
 ·rw [h.root]; exact h.inR j a (by omega)
 ·rw [h.root]; have := h.behind (by simp only [TP.cnt]; omega); simp only [TP.cnt] at this; omega
theorem range_up (xs : List S54) (i lo hi : Nat) (h : IsRange (xs.map gx) i lo hi) (hn : xs.length ≤ 20000) (d : Nat) : ∀ j : Nat, j + d = hi → i < j → Ev (fun k => spec_l2Range.l1 k xs (i : Int) (lo : Int) (j : Int)) ((lo : Int), (hi : Int)) := by
 have hb := h.b
 have hc := h.c
 rw [List.length_map] at hc
 induction d with
 | zero =>
  intro j hj hij
  obtain rfl : j = hi := by omega
  refine ev_now fun k => ?_
  simp only [spec_l2Range.l1]
  by_cases c : j < xs.length
  ·have hg := h.g (by rw [List.length_map]; exact c)
   rw [if_pos (by omega), if_pos (by omega), if_pos (by omega), if_pos (by omega), rd_lv xs j c, rd_lv xs i (by omega), if_neg (by omega)]
  ·rw [if_neg (by omega)]
 | succ d ih =>
  intro j hj hij
  have hf := h.f j hij (by omega)
  refine Ev.step (fun k => by simp only [spec_l2Range.l1]; rw [if_pos (by omega), if_pos (by omega), if_pos (by omega), if_pos (by omega), rd_lv xs j (by omega), rd_lv xs i (by omega), if_pos (by omega), w64 (by omega), show (j : Int) + 1 = ((j + 1 : Nat) : Int) by omega]) ?_
  exact ih (j + 1) (by omega) (by omega)
theorem range_down (xs : List S54) (i lo hi : Nat) (h : IsRange (xs.map gx) i lo hi) (hn : xs.length ≤ 20000) (d : Nat) : ∀ j : Nat, lo + d = j → j ≤ i → Ev (fun k => spec_l2Range.l0 k xs (i : Int) (j : Int)) ((lo : Int), (hi : Int)) := by
 have hb := h.b
 have hc := h.c
 rw [List.length_map] at hc
 have fin : Ev (fun k => spec_l2Range.j1 k xs (i : Int) (lo : Int)) ((lo : Int), (hi : Int)) := by
  refine Ev.step (fun k => by simp only [spec_l2Range.j1]; rw [w64 (by omega), show (i : Int) + 1 = ((i + 1 : Nat) : Int) by omega]) ?_
  exact range_up xs i lo hi h hn (hi - (i + 1)) (i + 1) (by omega) (by omega)
 induction d with
 | zero =>
  intro j hj hij
  obtain rfl : lo = j := by omega
  by_cases c : 0 < lo
  ·have he := h.e c
   refine Ev.step (fun k => by simp only [spec_l2Range.l0]; rw [if_pos (by omega), w64 (by omega), if_pos (by omega), if_pos (by omega), if_pos (by omega), if_pos (by omega), show (lo : Int) - 1 = ((lo - 1 : Nat) : Int) by omega, rd_lv xs (lo - 1) (by omega), rd_lv xs i (by omega), if_neg (by omega)]) fin
  ·exact Ev.step (fun k => by simp only [spec_l2Range.l0]; rw [if_neg (by omega)]) fin
 | succ d ih =>
  intro j hj hij
  have hd := h.d (j - 1) (by omega) (by omega)
  refine Ev.step (fun k => by simp only [spec_l2Range.l0]; rw [if_pos (by omega), w64 (by omega), if_pos (by omega), if_pos (by omega), if_pos (by omega), if_pos (by omega), show (j : Int) - 1 = ((j - 1 : Nat) : Int) by omega, rd_lv xs (j - 1) (by omega), rd_lv xs i (by omega), if_pos (by omega)]) ?_
  exact ih (j - 1) (by omega) (by omega)
theorem range_ev (xs : List S54) (i lo hi : Nat) (h : IsRange (xs.map gx) i lo hi) (hn : xs.length ≤ 20000) : Ev (fun k => spec_l2Range.f k xs (i : Int)) ((lo : Int), (hi : Int)) := by
 unfold spec_l2Range.f
 exact range_down xs i lo hi h hn (i - lo) i (by have := h.a; omega) (Nat.le_refl _)
theorem height_loop (xs : List S54) (lo hi h : Nat) (m : Int) (hh : hi ≤ xs.length) (hB : Bd (xs.map gx)) (h1 : ∀ j, lo ≤ j → j < hi → m ≤ TP.lv (xs.map gx) j ∧ TP.lv (xs.map gx) j ≤ m + h - 1)
  (h2 : ∃ j, lo ≤ j ∧ j < hi ∧ TP.lv (xs.map gx) j = m) (h3 : ∃ j, lo ≤ j ∧ j < hi ∧ TP.lv (xs.map gx) j = m + h - 1) (d : Nat) :
  ∀ (j : Nat) (x7 x8 : Int), j + d = hi → lo ≤ j → m ≤ x7 → x8 ≤ m + h - 1 → (∀ q, lo ≤ q → q < j → x7 ≤ TP.lv (xs.map gx) q ∧ TP.lv (xs.map gx) q ≤ x8) →
   Ev (fun k => spec_l2Height.l0 k xs (hi : Int) x7 x8 (j : Int)) (h : Int) := by
 obtain ⟨hn, hB⟩ := hB
 rw [List.length_map] at hn hB
 obtain ⟨j2, a2, b2, e2⟩ := h2
 obtain ⟨j3, a3, b3, e3⟩ := h3
 have hm := hB j2 (by omega)
 have hM := hB j3 (by omega)
 induction d with
 | zero =>
  intro j x7 x8 hj hlo hm7 hm8 hq
  obtain rfl : j = hi := by omega
  have k2 := hq j2 a2 b2
  have k3 := hq j3 a3 b3
  refine ev_now fun k => ?_
  simp only [spec_l2Height.l0]
  rw [if_neg (by omega), w64 (x := x8 - x7) (by omega), w64 (by omega)]
  congr 1; omega
 | succ d ih =>
  intro j x7 x8 hj hlo hm7 hm8 hq
  have hv := h1 j hlo (by omega)
  have step : ∀ y7 y8 : Int, y7 ≤ x7 → x8 ≤ y8 → y7 ≤ TP.lv (xs.map gx) j → TP.lv (xs.map gx) j ≤ y8 → m ≤ y7 → y8 ≤ m + h - 1 → Ev (fun k => spec_l2Height.l0 k xs (hi : Int) y7 y8 ((j + 1 : Nat) : Int)) (h : Int) := fun y7 y8 p1 p2 p3 p4 p5 p6 =>
   ih (j + 1) y7 y8 (by omega) (by omega) p5 p6 (fun q a b => by
    by_cases e : q = j
    ·subst e; exact ⟨p3, p4⟩
    ·have := hq q a (by omega); omega)
  by_cases c1 : TP.lv (xs.map gx) j < x7
  ·by_cases c2 : TP.lv (xs.map gx) j > x8
   ·exact Ev.step (fun k => by simp only [spec_l2Height.l0]; rw [if_pos (by omega), if_pos (by omega), if_pos (by omega), rd_lv xs j (by omega), if_pos c1, if_pos c2, w64 (by omega), show (j : Int) + 1 = ((j + 1 : Nat) : Int) by omega]) (step _ _ (by omega) (by omega) (by omega) (by omega) (by omega) (by omega))
   ·exact Ev.step (fun k => by simp only [spec_l2Height.l0]; rw [if_pos (by omega), if_pos (by omega), if_pos (by omega), rd_lv xs j (by omega), if_pos c1, if_neg c2, w64 (by omega), show (j : Int) + 1 = ((j + 1 : Nat) : Int) by omega]) (step _ _ (by omega) (by omega) (by omega) (by omega) (by omega) (by omega))
  ·by_cases c2 : TP.lv (xs.map gx) j > x8
   ·exact Ev.step (fun k => by simp only [spec_l2Height.l0]; rw [if_pos (by omega), if_pos (by omega), if_pos (by omega), rd_lv xs j (by omega), if_neg c1, if_pos c2, w64 (by omega), show (j : Int) + 1 = ((j + 1 : Nat) : Int) by omega]) (step _ _ (by omega) (by omega) (by omega) (by omega) (by omega) (by omega))
   ·exact Ev.step (fun k => by simp only [spec_l2Height.l0]; rw [if_pos (by omega), if_pos (by omega), if_pos (by omega), rd_lv xs j (by omega), if_neg c1, if_neg c2, w64 (by omega), show (j : Int) + 1 = ((j + 1 : Nat) : Int) by omega]) (step _ _ (by omega) (by omega) (by omega) (by omega) (by omega) (by omega))
theorem height_ev (xs : List S54) (lo hi h : Nat) (H : TP.Hgt (xs.map gx) lo hi h) (hh : hi ≤ xs.length) (hB : Bd (xs.map gx)) : Ev (fun k => spec_l2Height.f k xs (lo : Int) (hi : Int)) (h : Int) := by
 unfold spec_l2Height.f
 rcases H with ⟨a, rfl⟩ | ⟨a, b, m, h1, h2, h3⟩
 ·exact ev_const fun k => if_pos (by omega)
 ·have hv := h1 lo (Nat.le_refl _) a
  refine Ev.congr (fun k => by rw [if_neg (by omega), if_pos (by omega), if_pos (by omega), rd_lv xs lo (by omega)]) ?_
  exact height_loop xs lo hi h m hh hB h1 h2 h3 (hi - lo) lo _ _ (by omega) (Nat.le_refl _) (by omega) (by omega) (fun q a b => by omega)
theorem seg_height (xs : List S54) {A B : List (Pc × Int)} {t : Tree} {k : Int} (h : TP.Seg (xs.map gx) A t k B) (hB : Bd (xs.map gx)) : Ev (fun n => spec_l2Height.f n xs (A.length : Int) ((A.length + TP.cnt t : Nat) : Int)) (TP.hgt t : Int) :=
 height_ev xs _ _ _ h.hgt (by have := h.len; rw [List.length_map] at this; omega) hB
theorem child_loop (xs : List S54) (lo hi c : Nat) (hn : xs.length ≤ 20000) (hh : hi ≤ xs.length) (h1 : lo ≤ c) (h2 : c < hi) (hm : ∀ j, lo ≤ j → j < hi → j ≠ c → TP.lv (xs.map gx) c < TP.lv (xs.map gx) j) (d : Nat) :
  ∀ (j at_ : Nat), j + d = hi → lo ≤ j → lo ≤ at_ → at_ < hi → (at_ = lo ∨ at_ < j) → (c < j → at_ = c) → Ev (fun k => spec_l2Child.l0 k xs (hi : Int) (at_ : Int) (j : Int)) (c : Int) := by
 induction d with
 | zero =>
  intro j at_ hj _ _ _ _ hc
  obtain rfl : j = hi := by omega
  refine ev_now fun k => ?_
  simp only [spec_l2Child.l0]
  rw [if_neg (by omega), hc h2]
 | succ d ih =>
  intro j at_ hj hlo ha1 ha2 ha3 hc
  by_cases cl : TP.lv (xs.map gx) j < TP.lv (xs.map gx) at_
  ·refine Ev.step (fun k => by simp only [spec_l2Child.l0]; rw [if_pos (by omega), if_pos (by omega), if_pos (by omega), if_pos (by omega), if_pos (by omega), rd_lv xs j (by omega), rd_lv xs at_ (by omega), if_pos cl, w64 (by omega), show (j : Int) + 1 = ((j + 1 : Nat) : Int) by omega]) ?_
   refine ih (j + 1) j (by omega) (by omega) (by omega) (by omega) (by omega) (fun h => ?_)
   by_cases e : j = c
   ·exact e
   ·have ec := hc (by omega)
    subst ec
    have := hm j hlo (by omega) e
    omega
  ·refine Ev.step (fun k => by simp only [spec_l2Child.l0]; rw [if_pos (by omega), if_pos (by omega), if_pos (by omega), if_pos (by omega), if_pos (by omega), rd_lv xs j (by omega), rd_lv xs at_ (by omega), if_neg cl, w64 (by omega), show (j : Int) + 1 = ((j + 1 : Nat) : Int) by omega]) ?_
   refine ih (j + 1) at_ (by omega) (by omega) ha1 ha2 (by omega) (fun h => ?_)
   by_cases e : c < j
   ·exact hc e
   ·obtain rfl : j = c := by omega
    by_cases e2 : at_ = j
    ·exact e2
    ·have := hm at_ ha1 ha2 e2
     omega
theorem seg_child (xs : List S54) {A B : List (Pc × Int)} {l r : Tree} {v : Pc} {k : Int} (h : TP.Seg (xs.map gx) A (.node l v r) k B) (hn : xs.length ≤ 20000) : Ev (fun n => spec_l2Child.f n xs (A.length : Int) ((A.length + TP.cnt (.node l v r) : Nat) : Int)) ((A.length + TP.cnt l : Nat) : Int) := by
 have hl := h.len
 rw [List.length_map] at hl
 simp only [TP.cnt] at hl ⊢
 unfold spec_l2Child.f
 refine child_loop xs A.length (A.length + (TP.cnt l + TP.cnt r + 1)) (A.length + TP.cnt l) hn (by omega) (by omega) (by omega) (fun j a b c => ?_) _ A.length A.length rfl (Nat.le_refl _) (Nat.le_refl _) (by omega) (.inl rfl) (fun h => by omega)
 rw [h.root]
 by_cases e : j < A.length + TP.cnt l
 ·exact h.inL j a e
 ·exact h.inR j (by omega) (by omega)
theorem child_none (xs : List S54) (lo : Nat) : Ev (fun n => spec_l2Child.f n xs (lo : Int) (lo : Int)) (lo : Int) := by
 unfold spec_l2Child.f
 exact ev_now fun k => by simp only [spec_l2Child.l0]; rw [if_neg (by omega)]
theorem seg_child_any (xs : List S54) {A B : List (Pc × Int)} {t : Tree} {k : Int} (h : TP.Seg (xs.map gx) A t k B) (hn : xs.length ≤ 20000) : ∃ c, Ev (fun n => spec_l2Child.f n xs (A.length : Int) ((A.length + TP.cnt t : Nat) : Int)) c := by
 cases t with
 | nil => exact ⟨_, by simp only [TP.cnt, Nat.add_zero]; exact child_none xs A.length⟩
 | node l v r => exact ⟨_, seg_child xs h hn⟩
/-! levels changed, place by place -/
def upd (xs : List S54) (f : Nat → Int → Int) : List S54 := xs.mapIdx fun q x => ⟨x.f0, f q x.f1⟩
theorem upd_length (xs : List S54) (f : Nat → Int → Int) : (upd xs f).length = xs.length := by simp [upd]
theorem upd_get (xs : List S54) (f : Nat → Int → Int) (j : Nat) (h : j < xs.length) : rd_T54 (upd xs f) (j : Int) = ⟨(rd_T54 xs (j : Int)).f0, f j (rd_T54 xs (j : Int)).f1⟩ := by
 rw [rdI _ j (by rw [upd_length]; exact h), rdI xs j h]; simp [upd]
theorem upd_congr (xs : List S54) (f g : Nat → Int → Int) (h : ∀ j, j < xs.length → f j (rd_T54 xs (j : Int)).f1 = g j (rd_T54 xs (j : Int)).f1) : upd xs f = upd xs g := by
 refine List.ext_getElem (by rw [upd_length, upd_length]) fun j a b => ?_
 have hj : j < xs.length := by rw [upd_length] at a; exact a
 have := h j hj
 rw [rdI xs j hj] at this
 simp [upd, this]
theorem upd_set (xs : List S54) (f : Nat → Int → Int) (j : Nat) (w : Int) (h : j < xs.length) :
  (upd xs f).set j (⟨(⟨(rd_T54 (upd xs f) (j : Int)).f0.f0, (rd_T54 (upd xs f) (j : Int)).f0.f1, (rd_T54 (upd xs f) (j : Int)).f0.f2⟩ : S50), w⟩ : S54) = upd xs (fun q v => if q = j then w else f q v) := by
 refine List.ext_getElem (by rw [List.length_set, upd_length, upd_length]) fun q a b => ?_
 rw [List.getElem_set]
 by_cases e : j = q
 ·subst e
  rw [if_pos rfl, upd_get xs f j h, rdI xs j h]
  simp [upd]
 ·rw [if_neg e]
  simp [upd, Ne.symm e]
theorem upd_id (xs : List S54) : upd xs (fun _ v => v) = xs := by
 refine List.ext_getElem (upd_length _ _) fun q a b => ?_
 simp [upd]
theorem upd_fst (xs : List S54) (f : Nat → Int → Int) : ((upd xs f).map gx).map Prod.fst = (xs.map gx).map Prod.fst := by
 refine List.ext_getElem (by simp [upd_length]) fun q a b => ?_
 simp [upd, gx, itv, cv, pcOf]
theorem upd_lv (xs : List S54) (f : Nat → Int → Int) (j : Nat) (h : j < xs.length) : TP.lv ((upd xs f).map gx) j = f j (TP.lv (xs.map gx) j) := by
 rw [← rd_lv _ j (by rw [upd_length]; exact h), upd_get xs f j h, ← rd_lv xs j h]
def outerB (right : Bool) (y q : Nat) : Bool := if right then decide (q < y) else decide (q > y)
def lowerB (right : Bool) (i q : Nat) : Bool := if right then decide (q > i) else decide (q < i)
def F (right : Bool) (lo i y j : Nat) (q : Nat) (v : Int) : Int := if lo ≤ q ∧ q < j then v - (if outerB right y q then 1 else 0) + (if lowerB right i q then 1 else 0) else v
theorem turn_l1 (xs : List S54) (right : Bool) (lo hi i y : Nat) (level : Int) (hB : Bd (xs.map gx)) (hhi : hi ≤ xs.length) (hi' : i < xs.length) (hy : y < xs.length) (hlv : -100000 ≤ level ∧ level ≤ 100000) (d : Nat) :
  ∀ j : Nat, j + d = hi → lo ≤ j → Ev (fun k => spec_l2Turn.l1 k (upd xs (F right lo i y j)) (i : Int) right (hi : Int) level (y : Int) (j : Int)) (upd xs (fun q v => if q = i then level + 1 else if q = y then level else F right lo i y hi q v)) := by
 obtain ⟨hn, hB⟩ := hB
 rw [List.length_map] at hn hB
 induction d with
 | zero =>
  intro j hj hlo
  obtain rfl : j = hi := by omega
  refine ev_now fun k => ?_
  simp only [spec_l2Turn.l1]
  rw [if_neg (by omega), if_pos (by omega), if_pos (by rw [upd_length]; omega)]
  simp only [Int.toNat_natCast]
  rw [upd_set xs _ y level hy]
  simp only [Option.bind_some]
  rw [if_pos (by omega), if_pos (by rw [upd_length]; omega), w64 (by omega), upd_set xs _ i (level + 1) hi']
 | succ d ih =>
  intro j hj hlo
  have hb := hB j (by omega)
  rw [← rd_lv xs j (by omega)] at hb
  have key : Ev (fun k => spec_l2Turn.j3 k (upd xs (F right lo i y j)) (i : Int) right (hi : Int) level (y : Int) (j : Int) (outerB right y j) (lowerB right i j)) (upd xs (fun q v => if q = i then level + 1 else if q = y then level else F right lo i y hi q v)) := by
   have hrec := ih (j + 1) (by omega) (by omega)
   have e0 : F right lo i y j j (rd_T54 xs (j : Int)).f1 = (rd_T54 xs (j : Int)).f1 := by unfold F; rw [if_neg (by omega)]
   have el : (upd xs (F right lo i y j)).length = xs.length := upd_length _ _
   have eN : ∀ w : Int, w = (rd_T54 xs (j : Int)).f1 - (if outerB right y j then 1 else 0) + (if lowerB right i j then 1 else 0) → upd xs (fun q v => if q = j then w else F right lo i y j q v) = upd xs (F right lo i y (j + 1)) := fun w hw => by
    refine upd_congr _ _ _ fun q hq => ?_
    by_cases e : q = j
    ·subst e; rw [if_pos rfl, hw]; unfold F; rw [if_pos (show lo ≤ q ∧ q < q + 1 by omega)]
    ·rw [if_neg e]; unfold F
     by_cases e2 : lo ≤ q ∧ q < j
     ·rw [if_pos e2, if_pos (show lo ≤ q ∧ q < j + 1 by omega)]
     ·rw [if_neg e2, if_neg (show ¬ (lo ≤ q ∧ q < j + 1) by omega)]
   cases ho : outerB right y j with
   | true =>
    cases hl : lowerB right i j with
    | true =>
     refine Ev.step (f := fun k => spec_l2Turn.l1 k (upd xs (F right lo i y (j + 1))) (i : Int) right (hi : Int) level (y : Int) ((j + 1 : Nat) : Int)) (fun k => ?_) hrec
     simp only [spec_l2Turn.j3]
     rw [if_pos trivial, if_pos (by omega), if_pos (by omega)]
     simp only [Int.toNat_natCast]
     rw [upd_set xs _ j _ (by omega)]
     simp only [Option.bind_some]
     rw [if_pos trivial, upd_set xs _ j _ (by omega), upd_get xs _ j (by omega), upd_get xs _ j (by omega), if_pos rfl, e0]
     dsimp only
     rw [w64 (x := (rd_T54 xs (j : Int)).f1 - 1) (by omega), w64 (x := (rd_T54 xs (j : Int)).f1 - 1 + 1) (by omega), w64 (by omega)]
     rw [← eN _ rfl, ho, hl]
     congr 1
     refine upd_congr _ _ _ fun q hq => ?_
     by_cases e : q = j
     ·rw [if_pos e, if_pos e]; simp
     ·rw [if_neg e, if_neg e, if_neg e]
    | false =>
     refine Ev.step (f := fun k => spec_l2Turn.l1 k (upd xs (F right lo i y (j + 1))) (i : Int) right (hi : Int) level (y : Int) ((j + 1 : Nat) : Int)) (fun k => ?_) hrec
     simp only [spec_l2Turn.j3]
     rw [if_pos trivial, if_pos (by omega), if_pos (by omega)]
     simp only [Int.toNat_natCast]
     rw [upd_set xs _ j _ (by omega)]
     simp only [Option.bind_some]
     rw [if_neg (by simp), upd_get xs _ j (by omega), e0, w64 (x := (rd_T54 xs (j : Int)).f1 - 1) (by omega), w64 (by omega), eN _ (by rw [ho, hl]; simp)]
     rfl
   | false =>
    cases hl : lowerB right i j with
    | true =>
     refine Ev.step (f := fun k => spec_l2Turn.l1 k (upd xs (F right lo i y (j + 1))) (i : Int) right (hi : Int) level (y : Int) ((j + 1 : Nat) : Int)) (fun k => ?_) hrec
     simp only [spec_l2Turn.j3]
     rw [if_neg (by simp), if_pos trivial, if_pos (by omega), if_pos (by omega)]
     simp only [Int.toNat_natCast]
     rw [upd_set xs _ j _ (by omega), upd_get xs _ j (by omega), e0, w64 (x := (rd_T54 xs (j : Int)).f1 + 1) (by omega), w64 (by omega), eN _ (by rw [ho, hl]; simp)]
     rfl
    | false =>
     refine Ev.step (f := fun k => spec_l2Turn.l1 k (upd xs (F right lo i y (j + 1))) (i : Int) right (hi : Int) level (y : Int) ((j + 1 : Nat) : Int)) (fun k => ?_) hrec
     simp only [spec_l2Turn.j3]
     rw [if_neg (by simp), if_neg (by simp), w64 (by omega)]
     have e3 : upd xs (F right lo i y j) = upd xs (F right lo i y (j + 1)) := by
      rw [← eN (rd_T54 xs (j : Int)).f1 (by rw [ho, hl]; simp)]
      refine upd_congr _ _ _ fun q hq => ?_
      by_cases e : q = j
      ·subst e; rw [if_pos rfl, e0]
      ·rw [if_neg e]
     rw [e3]
     rfl
  cases right with
  | true =>
   refine Ev.step (fun k => by simp only [spec_l2Turn.l1]; rw [if_pos (by omega), if_pos trivial, show decide ((j : Int) < (y : Int)) = outerB true y j by unfold outerB; simp, show decide ((j : Int) > (i : Int)) = lowerB true i j by unfold lowerB; simp]) key
  | false =>
   refine Ev.step (fun k => by simp only [spec_l2Turn.l1]; rw [if_pos (by omega), if_neg (by simp), show decide ((j : Int) > (y : Int)) = outerB false y j by unfold outerB; simp, show decide ((j : Int) < (i : Int)) = lowerB false i j by unfold lowerB; simp]) key
theorem turn_l0 (xs : List S54) (right : Bool) (lo hi i y from_ to_ : Nat) (level : Int) (hn : xs.length ≤ 20000) (hto : to_ ≤ xs.length) (h1 : from_ ≤ y) (h2 : y < to_) (hlv : -100000 ≤ level ∧ level ≤ 100000)
  (hu : ∀ q, from_ ≤ q → q < to_ → (TP.lv (xs.map gx) q = level + 1 ↔ q = y)) (R : List S54) (hR : Ev (fun k => spec_l2Turn.l1 k xs (i : Int) right (hi : Int) level (y : Int) (lo : Int)) R) (d : Nat) :
  ∀ (j c : Nat), j + d = to_ → from_ ≤ j → (y < j → c = y) → Ev (fun k => spec_l2Turn.l0 k xs (i : Int) right (lo : Int) (hi : Int) level (to_ : Int) (c : Int) (j : Int)) R := by
 induction d with
 | zero =>
  intro j c hj hf hc
  obtain rfl : j = to_ := by omega
  refine Ev.step (fun k => by simp only [spec_l2Turn.l0]; rw [if_neg (by omega), hc h2]) hR
 | succ d ih =>
  intro j c hj hf hc
  have hq := hu j hf (by omega)
  by_cases e : j = y
  ·refine Ev.step (fun k => by simp only [spec_l2Turn.l0]; rw [if_pos (by omega), if_pos (by omega), if_pos (by omega), rd_lv xs j (by omega), w64 (x := level + 1) (by omega), if_pos (hq.2 e), w64 (by omega), show (j : Int) + 1 = ((j + 1 : Nat) : Int) by omega]) ?_
   exact ih (j + 1) j (by omega) (by omega) (fun _ => e)
  ·refine Ev.step (fun k => by simp only [spec_l2Turn.l0]; rw [if_pos (by omega), if_pos (by omega), if_pos (by omega), rd_lv xs j (by omega), w64 (x := level + 1) (by omega), if_neg (fun h => e (hq.1 h)), w64 (by omega), show (j : Int) + 1 = ((j + 1 : Nat) : Int) by omega]) ?_
   exact ih (j + 1) c (by omega) (by omega) (fun h => hc (by omega))
theorem turn_ev (xs : List S54) (right : Bool) (lo hi i y : Nat) (hB : Bd (xs.map gx)) (hr : IsRange (xs.map gx) i lo hi) (h1 : (if right then lo else i + 1) ≤ y) (h2 : y < (if right then i else hi))
  (hu : ∀ q, (if right then lo else i + 1) ≤ q → q < (if right then i else hi) → (TP.lv (xs.map gx) q = TP.lv (xs.map gx) i + 1 ↔ q = y)) :
  Ev (fun k => spec_l2Turn.f k xs (i : Int) right) (upd xs (fun q v => if q = i then TP.lv (xs.map gx) i + 1 else if q = y then TP.lv (xs.map gx) i else F right lo i y hi q v)) := by
 have hn := hB.1
 have ha := hr.a
 have hb := hr.b
 have hc := hr.c
 rw [List.length_map] at hn hc
 have hlv := hB.2 i (by rw [List.length_map]; omega)
 unfold spec_l2Turn.f
 refine Ev.bind (range_ev xs i lo hi hr hn) ?_
 refine Ev.congr (fun k => by rw [if_pos (by omega), if_pos (by omega), rd_lv xs i (by omega)]) ?_
 have e0 : upd xs (F right lo i y lo) = xs := by
  rw [show upd xs (F right lo i y lo) = upd xs (fun _ v => v) from upd_congr _ _ _ fun q _ => by unfold F; rw [if_neg (by omega)]]
  exact upd_id xs
 cases right with
 | true =>
  simp only [if_true] at h1 h2 hu
  have hl1 := turn_l1 xs true lo hi i y (TP.lv (xs.map gx) i) hB hc (by omega) (by omega) hlv (hi - lo) lo (by omega) (Nat.le_refl _)
  rw [e0] at hl1
  refine Ev.congr (fun k => if_pos rfl) ?_
  refine Ev.step (fun k => by simp only [spec_l2Turn.j0]; rfl) ?_
  exact turn_l0 xs true lo hi i y lo i _ hn (by omega) h1 h2 hlv hu _ hl1 (i - lo) lo lo (by omega) (Nat.le_refl _) (fun h => by omega)
 | false =>
  simp only [Bool.false_eq_true, if_false] at h1 h2 hu
  have hl1 := turn_l1 xs false lo hi i y (TP.lv (xs.map gx) i) hB hc (by omega) (by omega) hlv (hi - lo) lo (by omega) (Nat.le_refl _)
  rw [e0] at hl1
  refine Ev.congr (fun k => by rw [if_neg (by simp), w64 (by omega), show (i : Int) + 1 = ((i + 1 : Nat) : Int) by omega]) ?_
  refine Ev.step (fun k => by simp only [spec_l2Turn.j0]; rfl) ?_
  exact turn_l0 xs false lo hi i y (i + 1) hi _ hn hc h1 h2 hlv hu _ hl1 (hi - (i + 1)) (i + 1) (i + 1) (by omega) (Nat.le_refl _) (fun h => by omega)
theorem turnR_ev (xs : List S54) {A B : List (Pc × Int)} {a b r : Tree} {x v : Pc} {k : Int} (h : TP.Seg (xs.map gx) A (.node (.node a x b) v r) k B) (hB : Bd (xs.map gx)) :
  ∃ ys, Ev (fun n => spec_l2Turn.f n xs ((A.length + TP.cnt (.node a x b) : Nat) : Int) true) ys ∧ ys.map gx = A ++ TP.flat (.node a x (.node b v r)) k ++ B := by
 have hl := h.len
 rw [List.length_map] at hl
 have hc : TP.cnt (.node a x b) = TP.cnt a + TP.cnt b + 1 := rfl
 have hc2 : TP.cnt (.node (.node a x b) v r) = TP.cnt (.node a x b) + TP.cnt r + 1 := rfl
 have hsl := h.left
 have hr := range_of h
 have hroot := h.root
 refine ⟨_, turn_ev xs true A.length _ _ (A.length + TP.cnt a) hB hr (by simp) (by simp only [if_true]; omega) (fun q a1 a2 => ?_), ?_⟩
 ·simp only [if_true] at a1 a2
  rw [hroot]
  constructor
  ·intro e
   by_cases c : q = A.length + TP.cnt a
   ·exact c
   ·by_cases c2 : q < A.length + TP.cnt a
    ·have := hsl.inL q a1 c2; omega
    ·have := hsl.inR q (by omega) (by omega); omega
  ·rintro rfl; exact hsl.root
 ·refine TP.turn_right h (upd_fst _ _) (fun j hj => ?_)
  rw [List.length_map] at hj
  rw [upd_lv xs _ j hj, hroot]
  simp only [F, outerB, lowerB, if_true, decide_eq_true_eq]
  repeat' split
  all_goals first | rfl | omega
theorem turnL_ev (xs : List S54) {A B : List (Pc × Int)} {a b l : Tree} {x v : Pc} {k : Int} (h : TP.Seg (xs.map gx) A (.node l v (.node a x b)) k B) (hB : Bd (xs.map gx)) :
  ∃ ys, Ev (fun n => spec_l2Turn.f n xs ((A.length + TP.cnt l : Nat) : Int) false) ys ∧ ys.map gx = A ++ TP.flat (.node (.node l v a) x b) k ++ B := by
 have hl := h.len
 rw [List.length_map] at hl
 have hc : TP.cnt (.node a x b) = TP.cnt a + TP.cnt b + 1 := rfl
 have hc2 : TP.cnt (.node l v (.node a x b)) = TP.cnt l + TP.cnt (.node a x b) + 1 := rfl
 have hsr := h.right
 have hA : (A ++ (TP.flat l (k + 1) ++ [(v, k)])).length = A.length + TP.cnt l + 1 := by simp [TP.flat_length]; omega
 have hr := range_of h
 have hroot := h.root
 have hroot2 := hsr.root
 rw [hA] at hroot2
 refine ⟨_, turn_ev xs false A.length _ _ (A.length + TP.cnt l + 1 + TP.cnt a) hB hr (by simp only [Bool.false_eq_true, if_false]; omega) (by simp only [Bool.false_eq_true, if_false]; omega) (fun q a1 a2 => ?_), ?_⟩
 ·simp only [Bool.false_eq_true, if_false] at a1 a2
  rw [hroot]
  constructor
  ·intro e
   by_cases c : q = A.length + TP.cnt l + 1 + TP.cnt a
   ·exact c
   ·by_cases c2 : q < A.length + TP.cnt l + 1 + TP.cnt a
    ·have := hsr.inL q (by omega) (by omega); omega
    ·have := hsr.inR q (by omega) (by omega); omega
  ·rintro rfl; exact hroot2
 ·refine TP.turn_left h (upd_fst _ _) (fun j hj => ?_)
  rw [List.length_map] at hj
  rw [upd_lv xs _ j hj, hroot]
  simp only [F, outerB, lowerB, Bool.false_eq_true, if_false, decide_eq_true_eq]
  repeat' split
  all_goals first | rfl | omega
def wi : Option (Nat × Int) → Int | none => -1 | some (q, _) => q
def WOK (L : List (Pc × Int)) (w : Option (Nat × Int)) : Prop := ∀ q j, w = some (q, j) → q < L.length ∧ TP.lv L q = j
theorem scan_ev (xs : List S54) (hB : Bd (xs.map gx)) (x2 : Int) (R : List S54) (t : Tree) : ∀ (A B : List (Pc × Int)) (k : Int) (w : Option (Nat × Int)), TP.Seg (xs.map gx) A t k B → WOK (xs.map gx) w →
  (WOK (xs.map gx) (TP.scan t k A.length w) → Ev (fun n => spec_l2Repair.l1 n xs x2 (wi (TP.scan t k A.length w)) (xs.length : Int) ((A.length + TP.cnt t : Nat) : Int)) R) →
  Ev (fun n => spec_l2Repair.l1 n xs x2 (wi w) (xs.length : Int) (A.length : Int)) R := by
 have hn : xs.length ≤ 20000 := by have := hB.1; rwa [List.length_map] at this
 induction t with
 | nil => intro A B k w _ hw h; exact h hw
 | node l v r ihl ihr =>
  intro A B k w hs hw h
  have hlen := hs.len
  rw [List.length_map] at hlen
  simp only [TP.cnt] at hlen
  have hgl := TP.hgt_le l
  have hgr := TP.hgt_le r
  refine ihl A _ (k + 1) w hs.left hw fun hw1 => ?_
  simp only [TP.scan] at h
  generalize hW1 : TP.scan l (k + 1) A.length w = w1 at hw1 h ⊢
  have hroot := hs.root
  have hA : (A ++ (TP.flat l (k + 1) ++ [(v, k)])).length = A.length + TP.cnt l + 1 := by simp [TP.flat_length]; omega
  have hH1 := seg_height xs hs.left hB
  have hH2 := seg_height xs hs.right hB
  rw [hA] at hH2
  refine Ev.step (fun n => by simp only [spec_l2Repair.l1]; rw [if_pos (by omega)]) ?_
  refine Ev.bind (range_ev xs _ _ _ (range_of hs) hn) ?_
  refine Ev.bind hH1 ?_
  refine Ev.congr (f := fun n => (spec_l2Height.f n xs ((A.length + TP.cnt l + 1 : Nat) : Int) ((A.length + TP.cnt l + 1 + TP.cnt r : Nat) : Int)).bind fun t186 => (if (wrap64 ((TP.hgt l : Int) - t186)) ≥ 2 then (spec_l2Repair.j2 n xs x2 (wi w1) ((A.length + TP.cnt l : Nat) : Int) (xs.length : Int) ((A.length + TP.cnt l : Nat) : Int) true) else (spec_l2Repair.j2 n xs x2 (wi w1) ((A.length + TP.cnt l : Nat) : Int) (xs.length : Int) ((A.length + TP.cnt l : Nat) : Int) (decide ((wrap64 ((TP.hgt l : Int) - t186)) ≤ (-2)))))) (fun n => by
   rw [w64 (x := ((A.length + TP.cnt l : Nat) : Int) + 1) (by omega), show ((A.length + TP.cnt l : Nat) : Int) + 1 = ((A.length + TP.cnt l + 1 : Nat) : Int) by omega, show ((A.length + (TP.cnt l + TP.cnt r + 1) : Nat) : Int) = ((A.length + TP.cnt l + 1 + TP.cnt r : Nat) : Int) by omega]) ?_
  refine Ev.bind hH2 ?_
  refine Ev.congr (f := fun n => spec_l2Repair.j2 n xs x2 (wi w1) ((A.length + TP.cnt l : Nat) : Int) (xs.length : Int) ((A.length + TP.cnt l : Nat) : Int) (decide (TP.hgt l + 1 < TP.hgt r ∨ TP.hgt r + 1 < TP.hgt l))) (fun n => by
   rw [w64 (by omega)]
   by_cases c : (TP.hgt l : Int) - (TP.hgt r : Int) ≥ 2
   ·rw [if_pos c, decide_eq_true (show TP.hgt l + 1 < TP.hgt r ∨ TP.hgt r + 1 < TP.hgt l by omega)]
   ·rw [if_neg c]
    congr 1
    exact decide_eq_decide.2 (by omega)) ?_
  -- the rest, with the worst one
  have rest : ∀ w2, WOK (xs.map gx) w2 → (WOK (xs.map gx) (TP.scan r (k + 1) (A.length + TP.cnt l + 1) w2) → Ev (fun n => spec_l2Repair.l1 n xs x2 (wi (TP.scan r (k + 1) (A.length + TP.cnt l + 1) w2)) (xs.length : Int) ((A.length + TP.cnt (.node l v r) : Nat) : Int)) R) →
    Ev (fun n => spec_l2Repair.l1 n xs x2 (wi w2) (xs.length : Int) ((A.length + TP.cnt l + 1 : Nat) : Int)) R := fun w2 hw2 h2 => by
   have := ihr (A ++ (TP.flat l (k + 1) ++ [(v, k)])) B (k + 1) w2 hs.right hw2
   rw [hA] at this
   refine this fun h3 => ?_
   have h4 := h2 h3
   rw [show A.length + TP.cnt (.node l v r) = A.length + TP.cnt l + 1 + TP.cnt r by simp only [TP.cnt]; omega] at h4
   exact h4
  have hok : WOK (xs.map gx) (some (A.length + TP.cnt l, k)) := fun q j e => by
   cases e; exact ⟨by rw [List.length_map]; omega, hroot⟩
  have nxt : wrap64 (((A.length + TP.cnt l : Nat) : Int) + 1) = ((A.length + TP.cnt l + 1 : Nat) : Int) := by rw [w64 (by omega)]; omega
  by_cases c : TP.hgt l + 1 < TP.hgt r ∨ TP.hgt r + 1 < TP.hgt l
  ·rw [decide_eq_true c]
   rw [if_pos c] at h
   cases w1 with
   | none =>
    refine Ev.step (fun n => by simp only [spec_l2Repair.j2]; rw [if_pos trivial, if_pos (by simp [wi]), nxt]) ?_
    exact rest (some (A.length + TP.cnt l, k)) hok h
   | some y =>
    obtain ⟨q, j⟩ := y
    obtain ⟨hq, hj⟩ := hw1 q j rfl
    rw [List.length_map] at hq
    simp only at h
    rw [show wi (some (q, j)) = (q : Int) from rfl]
    have a1 : ¬ ((q : Int) < 0) := Int.not_lt.2 (Int.natCast_nonneg q)
    have a2 : 0 ≤ ((A.length + TP.cnt l : Nat) : Int) := Int.natCast_nonneg _
    have a6 : A.length + TP.cnt l < xs.length := by clear h hw1 hH1 hH2 rest; omega
    have a3 : ((A.length + TP.cnt l : Nat) : Int) < (xs.length : Int) := Int.ofNat_lt.2 a6
    have a4 : 0 ≤ (q : Int) := Int.natCast_nonneg q
    have a5 : (q : Int) < (xs.length : Int) := Int.ofNat_lt.2 hq
    by_cases cj : j < k
    ·rw [if_pos cj] at h
     refine Ev.step (fun n => by simp only [spec_l2Repair.j2]; rw [if_pos trivial, if_neg a1, if_pos a2, if_pos a3, if_pos a4, if_pos a5, rd_lv xs _ a6, rd_lv xs q hq, hroot, hj, if_pos (show k > j from cj), nxt]) ?_
     exact rest (some (A.length + TP.cnt l, k)) hok h
    ·rw [if_neg cj] at h
     refine Ev.step (fun n => by simp only [spec_l2Repair.j2]; rw [if_pos trivial, if_neg a1, if_pos a2, if_pos a3, if_pos a4, if_pos a5, rd_lv xs _ a6, rd_lv xs q hq, hroot, hj, if_neg (show ¬ k > j from cj), nxt]) ?_
     exact rest (some (q, j)) hw1 h
  ·rw [decide_eq_false c]
   rw [if_neg c] at h
   refine Ev.step (fun n => by simp only [spec_l2Repair.j2]; rw [if_neg (by simp), nxt]) ?_
   exact rest w1 hw1 h
theorem seg_whole (s : Tree) : TP.Seg (TP.flat s 0) [] s 0 [] := ⟨by simp, fun x h => by simp at h, fun x h => by simp at h⟩
theorem Bd_flat (s : Tree) (h : TP.cnt s ≤ 20000) : Bd (TP.flat s 0) := by
 refine ⟨by rw [TP.flat_length]; exact h, fun j hj => ?_⟩
 rw [TP.flat_length] at hj
 have := TP.lv_flat_bound s 0 j hj
 have := TP.hgt_le s
 omega
theorem round_ev (xs : List S54) (s : Tree) (hs : xs.map gx = TP.flat s 0) (hc : TP.cnt s ≤ 20000) (x2 : Int) (_h0 : 0 ≤ x2) (hx : x2 ≤ 2 * (xs.length : Int) + 2) (R : List S54)
  (h : WOK (xs.map gx) (TP.scan s 0 0 none) → Ev (fun n => spec_l2Repair.l1 n xs x2 (wi (TP.scan s 0 0 none)) (xs.length : Int) (xs.length : Int)) R) : Ev (fun n => spec_l2Repair.l0 n xs x2) R := by
 have hn : xs.length = TP.cnt s := by have := congrArg List.length hs; rwa [List.length_map, TP.flat_length] at this
 have hB : Bd (xs.map gx) := by rw [hs]; exact Bd_flat s hc
 refine Ev.step (fun n => by simp only [spec_l2Repair.l0]; rw [w64 (x := 2 * (xs.length : Int)) (by omega), w64 (by omega), if_pos hx]) ?_
 have := scan_ev xs hB x2 R s [] [] 0 none (by rw [hs]; exact seg_whole s) (fun q j e => by cases e) (fun hw => by
  have := h hw
  simp only [List.length_nil, Nat.zero_add]
  rw [← hn]
  exact this)
 exact this
theorem repair_done (xs : List S54) (s : Tree) (hs : xs.map gx = TP.flat s 0) (hc : TP.cnt s ≤ 20000) (ha : TP.Avl s) (x2 : Int) (h0 : 0 ≤ x2) (hx : x2 ≤ 2 * (xs.length : Int) + 2) : Ev (fun n => spec_l2Repair.l0 n xs x2) xs := by
 refine round_ev xs s hs hc x2 h0 hx xs fun _ => ?_
 rw [TP.scan_avl s _ _ _ ha]
 rw [show wi none = -1 from rfl]
 exact ev_now fun n => by simp only [spec_l2Repair.l1]; rw [if_neg (by omega), if_pos (by omega)]
theorem repair_step (xs : List S54) (s s' : Tree) (hs : xs.map gx = TP.flat s 0) (hc : TP.cnt s ≤ 20000) (st : TP.Step s s') (x2 : Int) (h0 : 0 ≤ x2) (hx : x2 ≤ 2 * (xs.length : Int) + 2) :
  ∃ ys, ys.map gx = TP.flat s' 0 ∧ ∀ R, Ev (fun n => spec_l2Repair.l0 n ys (x2 + 1)) R → Ev (fun n => spec_l2Repair.l0 n xs x2) R := by
 obtain ⟨C, l, v, r, rfl, hC, hal, har, hoff, rfl⟩ := st
 have hseg0 := TP.Seg.of_plug C (.node l v r) (C.length : Int)
 have hits := TP.hits_plug C (.node l v r) (C.length : Int) (TP.cnt l) (C.length : Int) hC (TP.hits_here l v r _ hal har hoff)
 rw [Int.sub_self] at hseg0 hits
 rw [← hs] at hseg0
 have hscan := hits.2 0 none (fun q j e => by cases e)
 have hflat : ∀ t, TP.flat (TP.plug C t) 0 = TP.pre C (C.length : Int) ++ TP.flat t (C.length : Int) ++ TP.post C (C.length : Int) := fun t => by
  have := TP.flat_plug C t (C.length : Int)
  rwa [Int.sub_self] at this
 generalize TP.pre C (C.length : Int) = A at hseg0 hscan hflat
 generalize TP.post C (C.length : Int) = B at hseg0 hscan hflat
 generalize (C.length : Int) = k at hseg0 hscan hflat
 have hB : Bd (xs.map gx) := by rw [hs]; exact Bd_flat _ hc
 have hn : xs.length ≤ 20000 := by have := hB.1; rwa [List.length_map] at this
 have hlen := hseg0.len
 rw [List.length_map] at hlen
 simp only [TP.cnt] at hlen
 have hA : (A ++ (TP.flat l (k + 1) ++ [(v, k)])).length = A.length + TP.cnt l + 1 := by simp [TP.flat_length]; omega
 have hH1 := seg_height xs hseg0.left hB
 have hH2 := seg_height xs hseg0.right hB
 obtain ⟨c2, hc2⟩ := seg_child_any xs hseg0.right hn
 rw [hA] at hH2 hc2
 have hgl := TP.hgt_le l
 have hgr := TP.hgt_le r
 -- up to the turns
 have head : ∀ R, Ev (fun n => if (TP.hgt l : Int) > (TP.hgt r : Int) then ((spec_l2Child.f n xs (A.length : Int) ((A.length + TP.cnt l : Nat) : Int)).bind fun t194 => (spec_l2Repair.j3 n xs x2 ((A.length + TP.cnt l : Nat) : Int) (decide ((TP.hgt l : Int) > (TP.hgt r : Int))) t194)) else (spec_l2Repair.j3 n xs x2 ((A.length + TP.cnt l : Nat) : Int) (decide ((TP.hgt l : Int) > (TP.hgt r : Int))) c2)) R → Ev (fun n => spec_l2Repair.l0 n xs x2) R := fun R hR => by
  refine round_ev xs _ hs hc x2 h0 hx R fun _ => ?_
  rw [hscan, Nat.zero_add, show wi (some (A.length + TP.cnt l, k)) = ((A.length + TP.cnt l : Nat) : Int) from rfl]
  refine Ev.step (fun n => by simp only [spec_l2Repair.l1]; rw [if_neg (by omega), if_neg (by omega)]) ?_
  refine Ev.bind (range_ev xs _ _ _ (range_of hseg0) hn) ?_
  refine Ev.bind hH1 ?_
  refine Ev.congr (f := fun n => (spec_l2Height.f n xs ((A.length + TP.cnt l + 1 : Nat) : Int) ((A.length + TP.cnt l + 1 + TP.cnt r : Nat) : Int)).bind fun t192 => ((spec_l2Child.f n xs ((A.length + TP.cnt l + 1 : Nat) : Int) ((A.length + TP.cnt l + 1 + TP.cnt r : Nat) : Int)).bind fun t193 => (if (TP.hgt l : Int) > t192 then ((spec_l2Child.f n xs (A.length : Int) ((A.length + TP.cnt l : Nat) : Int)).bind fun t194 => (spec_l2Repair.j3 n xs x2 ((A.length + TP.cnt l : Nat) : Int) (decide ((TP.hgt l : Int) > t192)) t194)) else (spec_l2Repair.j3 n xs x2 ((A.length + TP.cnt l : Nat) : Int) (decide ((TP.hgt l : Int) > t192)) t193)))) (fun n => by
   rw [w64 (x := ((A.length + TP.cnt l : Nat) : Int) + 1) (by omega), show ((A.length + TP.cnt l : Nat) : Int) + 1 = ((A.length + TP.cnt l + 1 : Nat) : Int) by omega, show ((A.length + (TP.cnt l + TP.cnt r + 1) : Nat) : Int) = ((A.length + TP.cnt l + 1 + TP.cnt r : Nat) : Int) by omega]) ?_
  refine Ev.bind hH2 ?_
  exact Ev.bind hc2 hR
 have nx : wrap64 (x2 + 1) = x2 + 1 := w64 (by omega)
 rcases hoff with ho | ho
 ·-- the left side is too high
  cases l with
  | nil => simp [TP.hgt] at ho
  | node a x b =>
   have hsl := hseg0.left
   have hcn : TP.cnt (.node a x b) = TP.cnt a + TP.cnt b + 1 := rfl
   have hA2 : (A ++ (TP.flat a (k + 1 + 1) ++ [(x, k + 1)])).length = A.length + TP.cnt a + 1 := by simp [TP.flat_length]; omega
   have hHa := seg_height xs hsl.left hB
   have hHb := seg_height xs hsl.right hB
   rw [hA2] at hHb
   have hch := seg_child xs hsl hn
   have mid : ∀ R, Ev (fun n => spec_l2Repair.j4 n xs x2 ((A.length + TP.cnt (.node a x b) : Nat) : Int) true ((A.length + TP.cnt a : Nat) : Int) (TP.hgt a : Int) (TP.hgt b : Int)) R → Ev (fun n => spec_l2Repair.l0 n xs x2) R := fun R hR => by
    refine head R ?_
    refine Ev.congr (fun n => if_pos (by omega)) ?_
    rw [decide_eq_true (show (TP.hgt (.node a x b) : Int) > (TP.hgt r : Int) by omega)]
    refine Ev.bind hch ?_
    refine Ev.step (fun n => by rw [spec_l2Repair.j3]) ?_
    refine Ev.bind (range_ev xs _ _ _ (range_of hsl) hn) ?_
    refine Ev.congr (f := fun n => (spec_l2Height.f n xs ((A.length + TP.cnt a + 1 : Nat) : Int) ((A.length + TP.cnt a + 1 + TP.cnt b : Nat) : Int)).bind fun t197 => ((spec_l2Height.f n xs (A.length : Int) ((A.length + TP.cnt a : Nat) : Int)).bind fun t198 => (if true = true then (spec_l2Repair.j4 n xs x2 ((A.length + TP.cnt (.node a x b) : Nat) : Int) true ((A.length + TP.cnt a : Nat) : Int) t198 t197) else (spec_l2Repair.j4 n xs x2 ((A.length + TP.cnt (.node a x b) : Nat) : Int) true ((A.length + TP.cnt a : Nat) : Int) t197 t198)))) (fun n => by
     rw [w64 (x := ((A.length + TP.cnt a : Nat) : Int) + 1) (by omega), show ((A.length + TP.cnt a : Nat) : Int) + 1 = ((A.length + TP.cnt a + 1 : Nat) : Int) by omega, show ((A.length + (TP.cnt a + TP.cnt b + 1) : Nat) : Int) = ((A.length + TP.cnt a + 1 + TP.cnt b : Nat) : Int) by omega]) ?_
    refine Ev.bind hHb ?_
    refine Ev.bind hHa ?_
    exact Ev.congr (fun n => if_pos rfl) hR
   by_cases cab : TP.hgt a < TP.hgt b
   ·cases b with
    | nil => simp [TP.hgt] at cab
    | node p y q =>
     obtain ⟨ys, hy1, hy2⟩ := turnL_ev xs hsl hB
     have hys : ys.map gx = A ++ TP.flat (.node (.node (.node a x p) y q) v r) k ++ B := by rw [hy2]; simp [TP.flat]
     have hlys : ys.length = xs.length := by have := congrArg List.length hys; simp only [List.length_map, List.length_append, TP.flat_length, TP.cnt] at this hlen ⊢; omega
     have hseg2 : TP.Seg (ys.map gx) A (.node (.node (.node a x p) y q) v r) k B := ⟨hys, hseg0.pre, hseg0.post⟩
     have hB2 : Bd (ys.map gx) := by
      rw [hys, ← hflat]; refine Bd_flat _ ?_
      have := congrArg List.length (hflat (.node (.node (.node a x p) y q) v r))
      rw [TP.flat_length] at this
      simp only [List.length_append, TP.flat_length, TP.cnt] at this hlen
      omega
     obtain ⟨zs, hz1, hz2⟩ := turnR_ev ys hseg2 hB2
     refine ⟨zs, ?_, fun R hR => mid R ?_⟩
     ·rw [hz2, hflat]
      simp only [TP.repaired, TP.inL]
      rw [if_pos ho, if_pos cab]
      rfl
     ·refine Ev.step (fun n => by simp only [spec_l2Repair.j4]; rw [if_pos (by omega), nx]) ?_
      refine Ev.bind hy1 ?_
      rw [show A.length + TP.cnt (.node a x (.node p y q)) = A.length + TP.cnt (.node (.node a x p) y q) by simp only [TP.cnt]; omega]
      exact Ev.bind hz1 hR
   ·obtain ⟨zs, hz1, hz2⟩ := turnR_ev xs hseg0 hB
    refine ⟨zs, ?_, fun R hR => mid R ?_⟩
    ·rw [hz2, hflat]
     simp only [TP.repaired, TP.inL]
     rw [if_pos ho, if_neg cab]
     rfl
    ·refine Ev.step (fun n => by simp only [spec_l2Repair.j4]; rw [if_neg (by omega), nx]) ?_
     exact Ev.bind hz1 hR
 ·-- the right side is too high
  cases r with
  | nil => simp [TP.hgt] at ho
  | node a x b =>
   have hsr := hseg0.right
   have hcn : TP.cnt (.node a x b) = TP.cnt a + TP.cnt b + 1 := rfl
   have hA2 : ((A ++ (TP.flat l (k + 1) ++ [(v, k)])) ++ (TP.flat a (k + 1 + 1) ++ [(x, k + 1)])).length = A.length + TP.cnt l + 1 + TP.cnt a + 1 := by simp [TP.flat_length]; omega
   have hHa := seg_height xs hsr.left hB
   have hHb := seg_height xs hsr.right hB
   have hch := seg_child xs hsr hn
   have hrg := range_of hsr
   rw [hA] at hHa hch hrg
   rw [hA2] at hHb
   have mid : ∀ R, Ev (fun n => spec_l2Repair.j4 n xs x2 ((A.length + TP.cnt l : Nat) : Int) false ((A.length + TP.cnt l + 1 + TP.cnt a : Nat) : Int) (TP.hgt b : Int) (TP.hgt a : Int)) R → Ev (fun n => spec_l2Repair.l0 n xs x2) R := fun R hR => by
    refine round_ev xs _ hs hc x2 h0 hx R fun _ => ?_
    rw [hscan, Nat.zero_add, show wi (some (A.length + TP.cnt l, k)) = ((A.length + TP.cnt l : Nat) : Int) from rfl]
    refine Ev.step (fun n => by simp only [spec_l2Repair.l1]; rw [if_neg (by omega), if_neg (by omega)]) ?_
    refine Ev.bind (range_ev xs _ _ _ (range_of hseg0) hn) ?_
    refine Ev.bind hH1 ?_
    refine Ev.congr (f := fun n => (spec_l2Height.f n xs ((A.length + TP.cnt l + 1 : Nat) : Int) ((A.length + TP.cnt l + 1 + TP.cnt (.node a x b) : Nat) : Int)).bind fun t192 => ((spec_l2Child.f n xs ((A.length + TP.cnt l + 1 : Nat) : Int) ((A.length + TP.cnt l + 1 + TP.cnt (.node a x b) : Nat) : Int)).bind fun t193 => (if (TP.hgt l : Int) > t192 then ((spec_l2Child.f n xs (A.length : Int) ((A.length + TP.cnt l : Nat) : Int)).bind fun t194 => (spec_l2Repair.j3 n xs x2 ((A.length + TP.cnt l : Nat) : Int) (decide ((TP.hgt l : Int) > t192)) t194)) else (spec_l2Repair.j3 n xs x2 ((A.length + TP.cnt l : Nat) : Int) (decide ((TP.hgt l : Int) > t192)) t193)))) (fun n => by
     rw [w64 (x := ((A.length + TP.cnt l : Nat) : Int) + 1) (by omega), show ((A.length + TP.cnt l : Nat) : Int) + 1 = ((A.length + TP.cnt l + 1 : Nat) : Int) by omega, show ((A.length + (TP.cnt l + TP.cnt (.node a x b) + 1) : Nat) : Int) = ((A.length + TP.cnt l + 1 + TP.cnt (.node a x b) : Nat) : Int) by omega]) ?_
    refine Ev.bind hH2 ?_
    refine Ev.bind hch ?_
    refine Ev.congr (fun n => if_neg (by omega)) ?_
    rw [decide_eq_false (show ¬ ((TP.hgt l : Int) > (TP.hgt (.node a x b) : Int)) by omega)]
    refine Ev.step (fun n => by rw [spec_l2Repair.j3]) ?_
    refine Ev.bind (range_ev xs _ _ _ hrg hn) ?_
    refine Ev.congr (f := fun n => (spec_l2Height.f n xs ((A.length + TP.cnt l + 1 + TP.cnt a + 1 : Nat) : Int) ((A.length + TP.cnt l + 1 + TP.cnt a + 1 + TP.cnt b : Nat) : Int)).bind fun t197 => ((spec_l2Height.f n xs ((A.length + TP.cnt l + 1 : Nat) : Int) ((A.length + TP.cnt l + 1 + TP.cnt a : Nat) : Int)).bind fun t198 => (if false = true then (spec_l2Repair.j4 n xs x2 ((A.length + TP.cnt l : Nat) : Int) false ((A.length + TP.cnt l + 1 + TP.cnt a : Nat) : Int) t198 t197) else (spec_l2Repair.j4 n xs x2 ((A.length + TP.cnt l : Nat) : Int) false ((A.length + TP.cnt l + 1 + TP.cnt a : Nat) : Int) t197 t198)))) (fun n => by
     rw [w64 (x := ((A.length + TP.cnt l + 1 + TP.cnt a : Nat) : Int) + 1) (by omega), show ((A.length + TP.cnt l + 1 + TP.cnt a : Nat) : Int) + 1 = ((A.length + TP.cnt l + 1 + TP.cnt a + 1 : Nat) : Int) by omega, show ((A.length + TP.cnt l + 1 + (TP.cnt a + TP.cnt b + 1) : Nat) : Int) = ((A.length + TP.cnt l + 1 + TP.cnt a + 1 + TP.cnt b : Nat) : Int) by omega]) ?_
    refine Ev.bind hHb ?_
    refine Ev.bind hHa ?_
    exact Ev.congr (fun n => if_neg (by simp)) hR
   have hnl : ¬ TP.hgt l = TP.hgt (.node a x b) + 2 := by omega
   by_cases cab : TP.hgt b < TP.hgt a
   ·cases a with
    | nil => simp [TP.hgt] at cab
    | node p y q =>
     obtain ⟨ys, hy1, hy2⟩ := turnR_ev xs hsr hB
     rw [hA] at hy1
     have hys : ys.map gx = A ++ TP.flat (.node l v (.node p y (.node q x b))) k ++ B := by rw [hy2]; simp [TP.flat]
     have hseg2 : TP.Seg (ys.map gx) A (.node l v (.node p y (.node q x b))) k B := ⟨hys, hseg0.pre, hseg0.post⟩
     have hB2 : Bd (ys.map gx) := by
      rw [hys, ← hflat]; refine Bd_flat _ ?_
      have := congrArg List.length (hflat (.node l v (.node p y (.node q x b))))
      rw [TP.flat_length] at this
      simp only [List.length_append, TP.flat_length, TP.cnt] at this hlen
      omega
     obtain ⟨zs, hz1, hz2⟩ := turnL_ev ys hseg2 hB2
     refine ⟨zs, ?_, fun R hR => mid R ?_⟩
     ·rw [hz2, hflat]
      simp only [TP.repaired, TP.inR]
      rw [if_neg hnl, if_pos ho, if_pos cab]
      rfl
     ·refine Ev.step (fun n => by simp only [spec_l2Repair.j4]; rw [if_pos (by omega), nx]) ?_
      refine Ev.bind hy1 ?_
      exact Ev.bind hz1 hR
   ·obtain ⟨zs, hz1, hz2⟩ := turnL_ev xs hseg0 hB
    refine ⟨zs, ?_, fun R hR => mid R ?_⟩
    ·rw [hz2, hflat]
     simp only [TP.repaired, TP.inR]
     rw [if_neg hnl, if_pos ho, if_neg cab]
     rfl
    ·refine Ev.step (fun n => by simp only [spec_l2Repair.j4]; rw [if_neg (by omega), nx]) ?_
     exact Ev.bind hz1 hR
theorem repair_chain {m : Nat} {s e : Tree} (h : TP.Chain m s e) (ha : TP.Avl e) : ∀ (xs : List S54) (x2 : Int), xs.map gx = TP.flat s 0 → TP.cnt s ≤ 20000 → 0 ≤ x2 → x2 + m ≤ 2 * (xs.length : Int) + 2 → Ev (fun n => spec_l2Repair.l0 n xs x2) ((TP.flat e 0).map mkS) := by
 induction h with
 | refl s =>
  intro xs x2 hs hc h0 hx
  rw [← hs, List.map_map, show (mkS ∘ gx) = id from rfl, List.map_id]
  exact repair_done xs s hs hc ha x2 h0 (by omega)
 | step st _ ih =>
  intro xs x2 hs hc h0 hx
  obtain ⟨ys, h1, h2⟩ := repair_step xs _ _ hs hc st x2 h0 (by omega)
  have hl : ys.length = xs.length := by
   obtain ⟨C, l, v, r, rfl, hC, hal, har, hoff, rfl⟩ := st
   have e1 := congrArg List.length h1
   have e2 := congrArg List.length hs
   rw [List.length_map] at e1 e2
   have k1 := congrArg List.length (TP.flat_plug C (TP.repaired (.node l v r)) (C.length : Int))
   have k2 := congrArg List.length (TP.flat_plug C (.node l v r) (C.length : Int))
   rw [Int.sub_self] at k1 k2
   simp only [List.length_append, TP.flat_length] at k1 k2 e1 e2
   rw [repaired_cnt] at k1
   simp only [TP.cnt] at k2
   omega
  have hcy := congrArg List.length h1
  rw [List.length_map, TP.flat_length] at hcy
  have hcx := congrArg List.length hs
  rw [List.length_map, TP.flat_length] at hcx
  exact h2 _ (ih ha ys (x2 + 1) h1 (by omega) (by omega) (by omega))
theorem repair_ev {m : Nat} {s e : Tree} (h : TP.Chain m s e) (ha : TP.Avl e) (hm : m ≤ 2 * TP.cnt s + 2) (hc : TP.cnt s ≤ 20000) : Ev (fun n => spec_l2Repair.f n ((TP.flat s 0).map mkS)) ((TP.flat e 0).map mkS) := by
 unfold spec_l2Repair.f
 exact repair_chain h ha _ 0 (map_gx_mkS _) hc (Int.le_refl _) (by rw [List.length_map, TP.flat_length]; omega)
/-! marks written into items, and read back -/
theorem rd_set_self (L : List S54) (i : Nat) (x : S54) (h : i < L.length) : rd_T54 (L.set i x) (i : Int) = x := by
 rw [rdI _ i (by rw [List.length_set]; exact h), List.getElem_set_self]
def mi (s : Int) (n : Nat) : List S54 := (List.range n).map fun (j : Nat) => ⟨⟨s + 4 * (j : Int), s + 4 * (j : Int) + 1, s + 4 * (j : Int) + 2⟩, s + 4 * (j : Int) + 3⟩
theorem mi_length (s : Int) (n : Nat) : (mi s n).length = n := by simp [mi]
theorem mi_get (s : Int) (n i : Nat) (h : i < n) : rd_T54 (mi s n) (i : Int) = ⟨⟨s + 4 * (i : Int), s + 4 * (i : Int) + 1, s + 4 * (i : Int) + 2⟩, s + 4 * (i : Int) + 3⟩ := by
 rw [rdI _ i (by rw [mi_length]; exact h)]; simp [mi]
theorem mi_succ (s : Int) (n : Nat) : mi s (n + 1) = mi s n ++ [⟨⟨s + 4 * (n : Int), s + 4 * (n : Int) + 1, s + 4 * (n : Int) + 2⟩, s + 4 * (n : Int) + 3⟩] := by
 simp [mi, List.range_succ]
theorem markItemS_loop (s : Int) (hs : 0 ≤ s ∧ s ≤ 9000000) (xs : List S54) (hn : xs.length ≤ 9000000) (d : Nat) : ∀ i : Nat, i + d = xs.length →
  Ev (fun k => laws_markItemS.l0 k (mi s i ++ xs.drop i) (s + 4 * (i : Int)) (i : Int)) (s + 4 * (xs.length : Int), mi s xs.length) := by
 induction d with
 | zero =>
  intro i hi
  obtain rfl : i = xs.length := by omega
  refine ev_now fun k => ?_
  simp only [laws_markItemS.l0]
  rw [if_neg (by simp [mi_length])]
  simp
 | succ d ih =>
  intro i hi
  have hlt : i < xs.length := by omega
  have hL : i < (mi s i ++ xs.drop i).length := by rw [List.length_append, mi_length, List.length_drop]; omega
  refine Ev.step (f := fun k => laws_markItemS.l0 k (mi s (i + 1) ++ xs.drop (i + 1)) (s + 4 * ((i + 1 : Nat) : Int)) ((i + 1 : Nat) : Int)) (fun k => ?_) (ih (i + 1) (by omega))
  simp only [laws_markItemS.l0]
  rw [if_pos (by omega), if_pos (by omega)]
  simp only [Option.bind_some, Int.toNat_natCast]
  rw [w64 (x := (i : Int) + 1) (by omega), w64 (x := s + 4 * (i : Int) + 1) (by omega), w64 (x := s + 4 * (i : Int) + 1 + 1) (by omega), w64 (x := s + 4 * (i : Int) + 1 + 1 + 1) (by omega), w64 (x := s + 4 * (i : Int) + 1 + 1 + 1 + 1) (by omega)]
  have hset : ∀ x : S54, (mi s i ++ xs.drop i).set i x = mi s i ++ (x :: xs.drop (i + 1)) := fun x => by
   rw [List.set_append_right _ _ (by rw [mi_length]; exact Nat.le_refl _), mi_length, Nat.sub_self, List.drop_eq_getElem_cons hlt, List.set_cons_zero]
  have hget : ∀ x : S54, rd_T54 (mi s i ++ (x :: xs.drop (i + 1))) (i : Int) = x := fun x => by
   rw [← hset x]; exact rd_set_self _ i x hL
  have hset2 : ∀ x y : S54, (mi s i ++ (x :: xs.drop (i + 1))).set i y = mi s i ++ (y :: xs.drop (i + 1)) := fun x y => by
   rw [List.set_append_right _ _ (by rw [mi_length]; exact Nat.le_refl _), mi_length, Nat.sub_self, List.set_cons_zero]
  rw [hset, hget, hset2, hget, hset2, hget, hset2, show s + 4 * (i : Int) + 1 + 1 = s + 4 * (i : Int) + 2 by omega, show s + 4 * (i : Int) + 2 + 1 = s + 4 * (i : Int) + 3 by omega, show s + 4 * (i : Int) + 3 + 1 = s + 4 * ((i + 1 : Nat) : Int) by omega, mi_succ, List.append_assoc, List.singleton_append]
  rfl
theorem markTree_ev (xs : List S54) (hn : xs.length ≤ 9000000) : Ev (fun k => laws_markTree.f k xs 1) (1 + 4 * (xs.length : Int), mi 1 xs.length) := by
 unfold laws_markTree.f laws_markItemS.f
 refine Ev.bind (a := (1 + 4 * (xs.length : Int), mi 1 xs.length)) ?_ (ev_const fun _ => rfl)
 have h := markItemS_loop 1 (by omega) xs hn xs.length 0 (by omega)
 exact Ev.congr (fun k => by simp [mi]) h
theorem heldItemS_loop (s : Int) (hs : 0 ≤ s ∧ s ≤ 9000000) (n : Nat) (hn : n ≤ 9000000) (d : Nat) : ∀ i : Nat, i + d = n →
  Ev (fun k => laws_heldItemS.l0 k (mi s n) (s + 4 * (i : Int)) (i : Int)) (s + 4 * (n : Int)) := by
 induction d with
 | zero =>
  intro i hi
  refine ev_now fun k => ?_
  simp only [laws_heldItemS.l0]
  rw [if_neg (by rw [mi_length]; omega)]
  congr 1; omega
 | succ d ih =>
  intro i hi
  refine Ev.step (f := fun k => laws_heldItemS.l0 k (mi s n) (s + 4 * ((i + 1 : Nat) : Int)) ((i + 1 : Nat) : Int)) (fun k => ?_) (ih (i + 1) (by omega))
  simp only [laws_heldItemS.l0]
  rw [if_pos (by rw [mi_length]; omega), if_pos (by omega), mi_get s n i (by omega), w64 (x := (i : Int) + 1) (by omega), w64 (x := s + 4 * (i : Int) + 1) (by omega), w64 (x := s + 4 * (i : Int) + 1 + 1) (by omega), w64 (x := s + 4 * (i : Int) + 1 + 1 + 1) (by omega), w64 (x := s + 4 * (i : Int) + 1 + 1 + 1 + 1) (by omega)]
  dsimp only
  rw [if_pos rfl, if_pos rfl, if_pos (by omega), if_pos (by omega)]
  congr 1
  omega
theorem heldTree_ev (n : Nat) (hn : n ≤ 9000000) : Ev (fun k => laws_heldTree.f k (mi 1 n) 1) (1 + 4 * (n : Int)) := by
 unfold laws_heldTree.f laws_heldItemS.f
 refine Ev.bind (a := 1 + 4 * (n : Int)) ?_ (ev_const fun _ => if_neg (by omega))
 exact Ev.congr (fun k => by simp) (heldItemS_loop 1 (by omega) n hn n 0 (by omega))
theorem markTree_from (s : Int) (hs : 0 ≤ s ∧ s ≤ 9000000) (xs : List S54) (hn : xs.length ≤ 9000000) : Ev (fun k => laws_markTree.f k xs s) (s + 4 * (xs.length : Int), mi s xs.length) := by
 unfold laws_markTree.f laws_markItemS.f
 refine Ev.bind (a := (s + 4 * (xs.length : Int), mi s xs.length)) ?_ (ev_const fun _ => rfl)
 have h := markItemS_loop s hs xs hn xs.length 0 (by omega)
 exact Ev.congr (fun k => by simp [mi]) h
theorem heldTree_from (s : Int) (hs : 0 ≤ s ∧ s ≤ 9000000) (n : Nat) (hn : n ≤ 9000000) : Ev (fun k => laws_heldTree.f k (mi s n) s) (s + 4 * (n : Int)) := by
 unfold laws_heldTree.f laws_heldItemS.f
 refine Ev.bind (a := s + 4 * (n : Int)) ?_ (ev_const fun _ => if_neg (by omega))
 exact Ev.congr (fun k => by simp) (heldItemS_loop s hs n hn n 0 (by omega))
theorem copy_is (xs : List S54) (h : xs.length ≤ 2000000) : spec_l2Copy.f xs = some xs := by
 unfold spec_l2Copy.f
 simp only [Option.bind_some, List.nil_append]
 rw [if_pos (by simp only [List.length_nil]; omega)]
theorem flat_of_grown {xs : List S54} {t : Tree} (h : grownV (xs.map cv) = some t) : xs = (TP.flat t 0).map mkS := by
 refine of_gx ?_
 rw [(grownV_toL h).2.2.1, List.map_map]; rfl
/-! a node with at most one child goes: its stretch moves up, it is left out -/
def Dn (lo i j : Nat) (q : Nat) (v : Int) : Int := if lo ≤ q ∧ q < j ∧ q ≠ i then v - 1 else v
theorem del_l0 (xs : List S54) (lo hi i : Nat) (hB : Bd (xs.map gx)) (hhi : hi ≤ xs.length) (hi' : i < xs.length) (R : List S54)
  (hR : Ev (fun n => spec_l2Repair.f n ((upd xs (Dn lo i hi)).take i ++ (upd xs (Dn lo i hi)).drop (i + 1))) R) (d : Nat) :
  ∀ j : Nat, j + d = hi → lo ≤ j → Ev (fun k => spec_l2Delete.l0 k (upd xs (Dn lo i j)) (hi : Int) (i : Int) (j : Int)) R := by
 obtain ⟨hn, hB⟩ := hB
 rw [List.length_map] at hn hB
 induction d with
 | zero =>
  intro j hj hlo
  obtain rfl : j = hi := by omega
  refine Ev.step (fun k => by simp only [spec_l2Delete.l0]; rw [if_neg (by omega), if_pos (by omega), if_pos (by rw [upd_length]; omega)]) ?_
  refine Ev.bind (ev_const fun _ => copy_is _ (by rw [List.length_take, upd_length]; omega)) ?_
  refine Ev.congr (fun n => by rw [w64 (x := (i : Int) + 1) (by omega), if_pos (by omega), if_pos (by rw [upd_length]; omega)]) ?_
  refine Ev.bind (ev_const fun _ => rfl) ?_
  refine Ev.congr (fun n => if_pos (by simp only [List.length_take, List.length_drop, upd_length]; omega)) ?_
  refine Ev.bind ?_ (ev_const fun _ => rfl)
  rw [show ((i : Int) + 1).toNat = i + 1 by omega, Int.toNat_natCast]
  exact hR
 | succ d ih =>
  intro j hj hlo
  have ih' := ih (j + 1) (by omega) (by omega)
  have hjn : j < xs.length := by omega
  by_cases e : j = i
  ·refine Ev.step (f := fun k => spec_l2Delete.l0 k (upd xs (Dn lo i (j + 1))) (hi : Int) (i : Int) ((j + 1 : Nat) : Int)) (fun k => ?_) ih'
   simp only [spec_l2Delete.l0]
   rw [if_pos (by omega), if_pos (by omega), w64 (by omega)]
   rw [upd_congr xs (Dn lo i j) (Dn lo i (j + 1)) (fun q hq => by unfold Dn; by_cases c : lo ≤ q ∧ q < j ∧ q ≠ i; rw [if_pos c, if_pos (by omega)]; rw [if_neg c, if_neg (by omega)])]
   rfl
  ·refine Ev.step (f := fun k => spec_l2Delete.l0 k (upd xs (Dn lo i (j + 1))) (hi : Int) (i : Int) ((j + 1 : Nat) : Int)) (fun k => ?_) ih'
   simp only [spec_l2Delete.l0]
   rw [if_pos (by omega), if_neg (by omega), if_pos (by omega), if_pos (by rw [upd_length]; omega), w64 (x := (j : Int) + 1) (by omega), Int.toNat_natCast, upd_set xs _ j _ hjn]
   have hl := hB j hjn
   rw [← rd_lv xs j hjn] at hl
   have e1 : (rd_T54 (upd xs (Dn lo i j)) (j : Int)).f1 = (rd_T54 xs (j : Int)).f1 := by
    rw [upd_get xs _ j hjn]; simp only; unfold Dn; rw [if_neg (by omega)]
   rw [e1, w64 (by omega)]
   rw [upd_congr xs _ (Dn lo i (j + 1)) (fun q hq => by
    by_cases c : q = j
    ·subst c; rw [if_pos rfl]; unfold Dn; rw [if_pos (by omega)]
    ·rw [if_neg c]; unfold Dn; by_cases c2 : lo ≤ q ∧ q < j ∧ q ≠ i; rw [if_pos c2, if_pos (by omega)]; rw [if_neg c2, if_neg (by omega)])]
   rfl
theorem j1_ev (xs : List S54) {A B : List (Pc × Int)} {l r : Tree} {v : Pc} {k : Int} (h : TP.Seg (xs.map gx) A (.node l v r) k B) (hB : Bd (xs.map gx)) (R : List S54)
  (hR : Ev (fun n => spec_l2Repair.f n ((A ++ (TP.flat l k ++ TP.flat r k) ++ B).map mkS)) R) : Ev (fun n => spec_l2Delete.j1 n xs ((A.length + TP.cnt l : Nat) : Int)) R := by
 have hn : xs.length ≤ 20000 := by have := hB.1; rwa [List.length_map] at this
 have hlen := h.len
 rw [List.length_map] at hlen
 simp only [TP.cnt] at hlen
 refine Ev.step (fun n => by rw [spec_l2Delete.j1]) ?_
 refine Ev.bind (range_ev xs _ _ _ (range_of h) hn) ?_
 have e0 : upd xs (Dn A.length (A.length + TP.cnt l) A.length) = xs := by
  rw [upd_congr xs _ (fun _ v => v) (fun q hq => by unfold Dn; rw [if_neg (by omega)]), upd_id]
 have hz := TP.adj_del (L' := (upd xs (Dn A.length (A.length + TP.cnt l) (A.length + (TP.cnt l + TP.cnt r + 1)))).map gx) h (upd_fst xs _) (fun j hj => by
  rw [List.length_map] at hj
  rw [upd_lv xs _ j hj]; rfl)
 have hz := of_gx hz
 have key := del_l0 xs A.length (A.length + (TP.cnt l + TP.cnt r + 1)) (A.length + TP.cnt l) hB (by omega) (by omega) R ?_ (TP.cnt l + TP.cnt r + 1) A.length (by omega) (Nat.le_refl _)
 ·rw [e0] at key; exact key
 ·rw [hz]
  have e1 : (A ++ (TP.flat l k ++ (v, k) :: TP.flat r k) ++ B).map mkS = ((A ++ TP.flat l k).map mkS) ++ (mkS (v, k) :: (TP.flat r k ++ B).map mkS) := by simp
  have e2 : (A ++ (TP.flat l k ++ TP.flat r k) ++ B).map mkS = ((A ++ TP.flat l k).map mkS) ++ (TP.flat r k ++ B).map mkS := by simp
  have e3 : A.length + TP.cnt l = ((A ++ TP.flat l k).map mkS).length := by simp [TP.flat_length]
  rw [e1, e3, List.take_left, List.drop_append, List.drop_eq_nil_of_le (Nat.le_succ _), Nat.add_sub_cancel_left, List.nil_append, List.drop_succ_cons, List.drop_zero, ← e2]
  exact hR
theorem delete_ev (t : Tree) (rk : Nat) (hk : rk < TP.cnt t) (ha : TP.Avl t) (hc : TP.cnt t ≤ 10000) : Ev (fun n => spec_l2Delete.f n ((TP.flat t 0).map mkS) (rk : Int)) ((TP.flat (TP.remove t rk) 0).map mkS) := by
 have hlen : ((TP.flat t 0).map mkS).length = TP.cnt t := by rw [List.length_map, TP.flat_length]
 obtain ⟨m, hm, hch⟩ := TP.chain_rem t [] rk (fun f h => by cases h) ha hk
 simp only [TP.plug] at hch
 have hok := TP.remove_ok t rk ha hk
 have hav := hok.1
 have hh := TP.hgt_le t
 obtain ⟨D, l, x, r, K, h1, h2, h3, h4⟩ := TP.at_rank t [] rk 0 hk
 simp only [TP.plug, TP.pre, List.length_nil, Nat.zero_add] at h1 h2 h3 h4
 have hseg := TP.Seg.of_plug D (.node l x r) K
 have hK : K - (D.length : Int) = 0 := by omega
 have hfp : ∀ s, TP.flat (TP.plug D s) 0 = TP.pre D K ++ TP.flat s K ++ TP.post D K := fun s => by have := TP.flat_plug D s K; rwa [hK] at this
 rw [hK, ← h1] at hseg
 have hmg : ((TP.flat t 0).map mkS).map gx = TP.flat t 0 := map_gx_mkS _
 have hBd : Bd (TP.flat t 0) := Bd_flat t (by omega)
 have hpc : TP.cnt (TP.prem t rk) + 1 = TP.cnt t := by
  have e1 := congrArg List.length (hfp (TP.delRoot l r))
  have e2 := congrArg List.length (hfp (.node l x r))
  rw [← h2] at e1
  rw [← h1] at e2
  simp only [List.length_append, TP.flat_length, TP.cnt] at e1 e2
  have e3 : TP.cnt (TP.delRoot l r) = TP.cnt l + TP.cnt r := by
   cases l with
   | nil => simp [TP.delRoot, TP.pick, TP.cnt]
   | node a y b =>
    cases r with
    | nil => simp [TP.delRoot, TP.pick, TP.cnt]
    | node d z e =>
     obtain ⟨E, y2, r2, i2, g1, g2, g3, g4, g5, g6⟩ := TP.at_first (.node d z e) [] 0 (TP.cnt_pos_of _ _ _)
     simp only [TP.plug] at g1 g2
     have f1 := congrArg List.length (TP.flat_plug E (.node .nil y2 r2) i2)
     have f2 := congrArg List.length (TP.flat_plug E r2 i2)
     rw [← g1] at f1
     rw [← g2] at f2
     simp only [List.length_append, TP.flat_length, TP.cnt] at f1 f2
     simp only [TP.delRoot, TP.pick, g3, Option.elim_some, TP.cnt]
     omega
  omega
 have hrep := repair_ev hch hav (by omega) (by omega)
 rw [h2, hfp] at hrep
 generalize hX : (TP.flat t 0).map mkS = xs at hlen hmg ⊢
 rw [← hmg] at hseg hBd
 have hn : xs.length ≤ 20000 := by omega
 have hlt : rk < xs.length := by omega
 unfold spec_l2Delete.f
 refine Ev.bind (ev_const fun _ => copy_is xs (by omega)) ?_
 have hrg := range_ev xs _ _ _ (range_of hseg) hn
 rw [h3] at hrg
 refine Ev.bind hrg ?_
 have hj1 := j1_ev xs hseg hBd ((TP.flat (TP.remove t rk) 0).map mkS)
 rw [h3] at hj1
 cases l with
 | nil =>
  simp only [TP.cnt, Nat.add_zero] at h3
  refine Ev.congr (fun n => if_neg (by omega)) ?_
  refine Ev.step (fun n => by simp only [spec_l2Delete.j0]; rw [if_neg (by simp)]) ?_
  refine hj1 ?_
  simpa only [TP.delRoot, TP.pick, TP.flat, List.nil_append] using hrep
 | node a y b =>
  have hcl := TP.cnt_pos_of a y b
  refine Ev.congr (fun n => if_pos (by omega)) ?_
  cases r with
  | nil =>
   refine Ev.step (fun n => by simp only [spec_l2Delete.j0]; rw [w64 (x := (rk : Int) + 1) (by omega), decide_eq_false (by simp only [TP.cnt]; simp only [TP.cnt] at h3; omega), if_neg (by simp)]) ?_
   refine hj1 ?_
   simpa only [TP.delRoot, TP.pick, TP.flat, List.append_nil] using hrep
  | node d z e =>
   have hcr := TP.cnt_pos_of d z e
   have hlen2 := hseg.len
   rw [List.length_map] at hlen2
   simp only [TP.cnt] at hlen2 h3 hcr hcl
   have hlt1 : rk + 1 < xs.length := by omega
   -- the value that comes after
   obtain ⟨E0, y0, r0, i0, g1, -, g3, g4, g5, -⟩ := TP.at_first (.node d z e) (.R (.node a y b) x :: D) (K + 1) (TP.cnt_pos_of _ _ _)
   have hseg0 := TP.Seg.of_plug E0 (.node .nil y0 r0) i0
   rw [g4, show i0 - (E0.length : Int) = 0 by rw [g5]; simp only [List.length_cons]; omega, ← g1, show TP.plug (TP.Fr.R (.node a y b) x :: D) (.node d z e) = t from h1.symm, ← hmg] at hseg0
   have hP : (TP.pre (TP.Fr.R (.node a y b) x :: D) (K + 1)).length = rk + 1 := by
    simp only [TP.pre, List.length_append, TP.flat_length, List.length_cons, List.length_nil, TP.cnt, show K + 1 - 1 = K by omega]; omega
   have hz1 : gx (rd_T54 xs ((rk + 1 : Nat) : Int)) = (y0, i0) := by
    have q := hseg0.eq
    have q2 : (xs.map gx)[rk + 1]? = some (y0, i0) := by
     rw [q, List.append_assoc, List.getElem?_append_right (by omega), hP, Nat.sub_self]; simp [TP.flat]
    rw [rdI xs (rk + 1) hlt1]
    rw [List.getElem?_map, List.getElem?_eq_getElem hlt1] at q2
    exact Option.some.inj q2
   have hz0 : (rd_T54 xs (rk : Int)).f1 = K := by
    rw [rd_lv xs rk hlt]
    have := hseg.root
    rw [show (TP.pre D K).length + TP.cnt (.node a y b) = rk by simp only [TP.cnt]; omega] at this
    exact this
   refine Ev.step (fun n => by simp only [spec_l2Delete.j0]; rw [w64 (x := (rk : Int) + 1) (by omega), decide_eq_true (by simp only [TP.cnt]; omega), if_pos rfl, if_pos (by omega), if_pos (by omega), if_pos (by omega), if_pos (by omega)]) ?_
   rw [show (rk : Int) + 1 = ((rk + 1 : Nat) : Int) by omega, hz0, Int.toNat_natCast]
   generalize hzz : rd_T54 xs ((rk + 1 : Nat) : Int) = zz at hz1
   obtain ⟨E, y2, r2, i2, k1, k2, k3, k4, k5, -⟩ := TP.at_first (.node d z e) (.R (.node a y b) y0 :: D) (K + 1) (TP.cnt_pos_of _ _ _)
   have hyy : y2 = y0 := by rw [g3] at k3; exact (Option.some.inj k3).symm
   subst hyy
   have hi2 : i2 - (E.length : Int) = 0 := by rw [k5]; simp only [List.length_cons]; omega
   have hseg2 := TP.Seg.of_plug E (.node .nil y2 r2) i2
   rw [hi2, ← k1] at hseg2
   have hset : (xs.set rk (⟨(⟨zz.f0.f0, zz.f0.f1, zz.f0.f2⟩ : S50), K⟩ : S54)).map gx = TP.flat (TP.plug (TP.Fr.R (.node a y b) y2 :: D) (.node d z e)) 0 := by
    rw [List.map_set, hseg.eq]
    rw [show gx (⟨(⟨zz.f0.f0, zz.f0.f1, zz.f0.f2⟩ : S50), K⟩ : S54) = ((gx zz).1, K) from rfl, hz1]
    rw [show TP.plug (TP.Fr.R (.node a y b) y2 :: D) (.node d z e) = TP.plug D (.node (.node a y b) y2 (.node d z e)) from rfl, hfp]
    rw [show ∀ q : Pc, TP.pre D K ++ TP.flat (.node (.node a y b) q (.node d z e)) K ++ TP.post D K = (TP.pre D K ++ TP.flat (.node a y b) (K + 1)) ++ ((q, K) :: (TP.flat (.node d z e) (K + 1) ++ TP.post D K)) from fun q => by simp [TP.flat]]
    rw [show ∀ q : Pc, TP.pre D K ++ TP.flat (.node (.node a y b) q (.node d z e)) K ++ TP.post D K = (TP.pre D K ++ TP.flat (.node a y b) (K + 1)) ++ ((q, K) :: (TP.flat (.node d z e) (K + 1) ++ TP.post D K)) from fun q => by simp [TP.flat]]
    have hA : (TP.pre D K ++ TP.flat (.node a y b) (K + 1)).length = rk := by rw [List.length_append, TP.flat_length]; simp only [TP.cnt]; omega
    rw [List.set_append_right _ _ (by omega), hA, Nat.sub_self, List.set_cons_zero]
   rw [← hset] at hseg2
   have hB2 : Bd ((xs.set rk (⟨(⟨zz.f0.f0, zz.f0.f1, zz.f0.f2⟩ : S50), K⟩ : S54)).map gx) := by
    rw [hset]; refine Bd_flat _ ?_
    have := congrArg List.length hset
    rw [List.length_map, List.length_set, TP.flat_length] at this
    omega
   have hj2 := j1_ev _ hseg2 hB2 ((TP.flat (TP.remove t rk) 0).map mkS)
   have hP2 : (TP.pre E i2).length + TP.cnt (TP.Tr.nil : Tree) = rk + 1 := by
    rw [k4]; simp only [TP.pre, List.length_append, TP.flat_length, List.length_cons, List.length_nil, TP.cnt, show K + 1 - 1 = K by omega]; omega
   rw [hP2] at hj2
   refine hj2 ?_
   have hfe := TP.flat_plug E r2 i2
   rw [hi2, ← k2] at hfe
   rw [show TP.flat (TP.Tr.nil : Tree) i2 ++ TP.flat r2 i2 = TP.flat r2 i2 from rfl, ← hfe]
   rw [show TP.plug (TP.Fr.R (.node a y b) y2 :: D) (TP.prem (.node d z e) 0) = TP.plug D (.node (.node a y b) y2 (TP.prem (.node d z e) 0)) from rfl, hfp]
   have : TP.delRoot (.node a y b) (.node d z e) = .node (.node a y b) y2 (TP.prem (.node d z e) 0) := by
    simp only [TP.delRoot, TP.pick, k3, Option.elim_some]
   rw [← this]
   exact hrep
/-! levels lifted; two trees joined -/
theorem lift_l0 (xs : List S54) (d : Int) (hB : Bd (xs.map gx)) (hd : -100000 ≤ d ∧ d ≤ 100000) (m : Nat) : ∀ i : Nat, i + m = xs.length →
  Ev (fun k => spec_l2Lift.l0 k d (upd xs (fun q v => if q < i then v + d else v)) (xs.length : Int) (i : Int)) (upd xs (fun _ v => v + d)) := by
 obtain ⟨hn, hB⟩ := hB
 rw [List.length_map] at hn hB
 induction m with
 | zero =>
  intro i hi
  obtain rfl : i = xs.length := by omega
  refine ev_now fun k => ?_
  simp only [spec_l2Lift.l0]
  rw [if_neg (by omega), upd_congr xs _ (fun _ v => v + d) (fun q hq => by rw [if_pos hq])]
 | succ m ih =>
  intro i hi
  have hin : i < xs.length := by omega
  refine Ev.step (f := fun k => spec_l2Lift.l0 k d (upd xs (fun q v => if q < i + 1 then v + d else v)) (xs.length : Int) ((i + 1 : Nat) : Int)) (fun k => ?_) (ih (i + 1) (by omega))
  simp only [spec_l2Lift.l0]
  rw [if_pos (by omega), if_pos (by omega), if_pos (by rw [upd_length]; omega), w64 (x := (i : Int) + 1) (by omega), Int.toNat_natCast, upd_set xs _ i _ hin]
  have hl := hB i hin
  rw [← rd_lv xs i hin] at hl
  have e1 : (rd_T54 (upd xs (fun q v => if q < i then v + d else v)) (i : Int)).f1 = (rd_T54 xs (i : Int)).f1 := by
   rw [upd_get xs _ i hin]; simp only; rw [if_neg (by omega)]
  rw [e1, w64 (by omega)]
  rw [upd_congr xs _ (fun q v => if q < i + 1 then v + d else v) (fun q hq => by
   by_cases c : q = i
   ·subst c; rw [if_pos rfl, if_pos (by omega)]
   ·rw [if_neg c]; by_cases c2 : q < i; rw [if_pos c2, if_pos (by omega)]; rw [if_neg c2, if_neg (by omega)])]
  rfl
theorem lift_ev (L : List (Pc × Int)) (d : Int) (hB : Bd L) (hd : -100000 ≤ d ∧ d ≤ 100000) : Ev (fun k => spec_l2Lift.f k (L.map mkS) d) ((TP.up d L).map mkS) := by
 have hn := hB.1
 unfold spec_l2Lift.f
 refine Ev.bind (ev_const fun _ => copy_is _ (by rw [List.length_map]; omega)) ?_
 have h := lift_l0 (L.map mkS) d (by rw [map_gx_mkS]; exact hB) hd (L.map mkS).length 0 (by omega)
 have e : upd (L.map mkS) (fun _ v => v + d) = (TP.up d L).map mkS := by
  refine List.ext_getElem (by simp [upd, TP.up]) fun q a b => ?_
  simp [upd, TP.up, mkS]
 rw [e, upd_congr (L.map mkS) _ (fun _ v => v) (fun q _ => by rw [if_neg (by omega)]), upd_id] at h
 exact h
theorem Bd_app {A B C : List (Pc × Int)} (h : Bd (A ++ (B ++ C))) : Bd B := by
 obtain ⟨h1, h2⟩ := h
 simp only [List.length_append] at h1 h2
 refine ⟨by omega, fun j hj => ?_⟩
 have := h2 (A.length + j) (by omega)
 rw [TP.lv_right _ _ _ (by omega), Nat.add_sub_cancel_left, TP.lv_left _ _ _ hj] at this
 exact this
theorem flat_sh (t : Tree) (d : Int) : TP.up d (TP.flat t 0) = TP.flat t d := by
 have := TP.flat_up d t 0
 rw [← this, Int.zero_add]
theorem join_r (a b : Tree) (v : Pc) (hca : TP.cnt a ≤ 10000) (hcb : TP.cnt b ≤ 10000) (R : List S54) (hR : Ev (fun n => spec_l2Repair.f n ((TP.flat (TP.pjoin a v b) 0).map mkS)) R) (t : Tree) :
  ∀ (A : List (Pc × Int)) (j : Int), 0 ≤ j → j + TP.cnt t ≤ TP.cnt a → TP.Seg (TP.flat a 0) A t j [] → TP.Avl t → TP.hgt b ≤ TP.hgt t + 1 → A ++ TP.flat (TP.pjoin t v b) j = TP.flat (TP.pjoin a v b) 0 →
  Ev (fun n => spec_l2Join.l0 n ((TP.flat a 0).map mkS) ((TP.flat b 0).map mkS) (TP.hgt b : Int) [] (A.length : Int) j v.off v.len v.brk) R := by
 have hBa := Bd_flat a (by omega)
 have hBb := Bd_flat b (by omega)
 have hhb := TP.hgt_le b
 have hla : ((TP.flat a 0).map mkS).length = TP.cnt a := by rw [List.length_map, TP.flat_length]
 have hlb : ((TP.flat b 0).map mkS).length = TP.cnt b := by rw [List.length_map, TP.flat_length]
 have hfin : ∀ (t : Tree) (A : List (Pc × Int)) (j : Int), 0 ≤ j → j + TP.cnt t ≤ TP.cnt a → TP.Seg (TP.flat a 0) A t j [] → ¬ TP.hgt b + 1 < TP.hgt t → TP.hgt b ≤ TP.hgt t + 1 → A ++ TP.flat (TP.pjoin t v b) j = TP.flat (TP.pjoin a v b) 0 →
   Ev (fun n => spec_l2Join.l0 n ((TP.flat a 0).map mkS) ((TP.flat b 0).map mkS) (TP.hgt b : Int) [] (A.length : Int) j v.off v.len v.brk) R := fun t A j hj0 hj hs hc hh hp => by
  have e := hs.eq
  have hl := hs.len
  rw [TP.flat_length] at hl
  simp only [List.length_nil, Nat.add_zero] at hl
  have hseg := seg_height ((TP.flat a 0).map mkS) (by rw [map_gx_mkS]; exact hs) (by rw [map_gx_mkS]; exact hBa)
  rw [← hl] at hseg
  have hpj : TP.pjoin t v b = .node t v b := by unfold TP.pjoin; rw [if_neg hc, if_neg (by omega)]
  rw [hpj] at hp
  have hBt : Bd (TP.flat t j) := by have := hBa; rw [e, List.append_assoc] at this; exact Bd_app this
  refine Ev.step (fun n => by rw [spec_l2Join.l0]) ?_
  rw [hla]
  refine Ev.bind hseg ?_
  refine Ev.congr (fun n => by rw [w64 (x := (TP.hgt b : Int) + 1) (by omega), if_neg (by omega), if_pos (by omega), if_pos (by omega), w64 (x := j + 1) (by omega), Int.toNat_natCast]) ?_
  have et : ((TP.flat a 0).map mkS).take A.length = A.map mkS := by rw [e, List.append_nil, List.map_append, List.take_left' (by simp)]
  have ed : ((TP.flat a 0).map mkS).drop A.length = (TP.flat t j).map mkS := by rw [e, List.append_nil, List.map_append, List.drop_left' (by simp)]
  rw [et, ed]
  refine Ev.bind (ev_const fun _ => rfl) ?_
  refine Ev.congr (fun n => if_pos (by simp only [List.length_nil, List.length_map]; omega)) ?_
  refine Ev.bind (ev_const fun _ => rfl) ?_
  refine Ev.bind (lift_ev _ 1 hBt (by omega)) ?_
  refine Ev.congr (fun n => if_pos (by simp only [List.length_append, List.length_nil, List.length_map, TP.up_length, TP.flat_length]; omega)) ?_
  refine Ev.bind (ev_const fun _ => rfl) ?_
  refine Ev.congr (fun n => if_pos (by simp only [List.length_append, List.length_nil, List.length_map, TP.up_length, TP.flat_length]; omega)) ?_
  refine Ev.bind (ev_const fun _ => rfl) ?_
  refine Ev.bind (lift_ev _ (j + 1) hBb (by omega)) ?_
  refine Ev.congr (fun n => if_pos (by simp only [List.length_append, List.length_nil, List.length_cons, List.length_map, TP.up_length, TP.flat_length]; omega)) ?_
  refine Ev.bind ?_ (ev_const fun _ => rfl)
  rw [← hp, TP.flat, ← flat_sh b (j + 1), TP.flat_up 1 t j] at hR
  simpa [mkS] using hR
 induction t with
 | nil => intro A j hj0 hj hs _ hh hp; exact hfin _ A j hj0 hj hs (by simp [TP.hgt]) hh hp
 | node l x r _ ihr =>
  intro A j hj0 hj hs hav hh hp
  by_cases c : TP.hgt b + 1 < TP.hgt (.node l x r)
  ·obtain ⟨_, har, hv1, hv2⟩ := hav
   have hl := hs.len
   rw [TP.flat_length] at hl
   simp only [List.length_nil, Nat.add_zero] at hl
   have hn : ((TP.flat a 0).map mkS).length ≤ 20000 := by omega
   have hseg := seg_height ((TP.flat a 0).map mkS) (by rw [map_gx_mkS]; exact hs) (by rw [map_gx_mkS]; exact hBa)
   have hch := seg_child ((TP.flat a 0).map mkS) (by rw [map_gx_mkS]; exact hs) hn
   rw [← hl] at hseg hch
   have hA : (A ++ (TP.flat l (j + 1) ++ [(x, j)])).length = A.length + TP.cnt l + 1 := by simp [TP.flat_length]; omega
   have key := ihr (A ++ (TP.flat l (j + 1) ++ [(x, j)])) (j + 1) (by omega) (by simp only [TP.cnt] at hj; omega) hs.right har (by simp only [TP.hgt] at c; omega) (by
    rw [← hp]
    conv => rhs; unfold TP.pjoin
    rw [if_pos c]; simp [TP.flat])
   rw [hA] at key
   simp only [TP.cnt] at hl hj
   refine Ev.step (fun n => by rw [spec_l2Join.l0]) ?_
   rw [hla]
   refine Ev.bind hseg ?_
   refine Ev.congr (fun n => by rw [w64 (x := (TP.hgt b : Int) + 1) (by omega), if_pos (by omega), w64 (x := j + 1) (by omega)]) ?_
   refine Ev.bind hch ?_
   refine Ev.congr (fun n => by rw [w64 (x := ((A.length + TP.cnt l : Nat) : Int) + 1) (by omega), show ((A.length + TP.cnt l : Nat) : Int) + 1 = ((A.length + TP.cnt l + 1 : Nat) : Int) by omega]) ?_
   exact key
  ·exact hfin _ A j hj0 hj hs c hh hp
theorem join_l (a b : Tree) (v : Pc) (hca : TP.cnt a ≤ 10000) (hcb : TP.cnt b ≤ 10000) (R : List S54) (hR : Ev (fun n => spec_l2Repair.f n ((TP.flat (TP.pjoin a v b) 0).map mkS)) R) (t : Tree) :
  ∀ (B : List (Pc × Int)) (j : Int), 0 ≤ j → j + TP.cnt t ≤ TP.cnt b → TP.Seg (TP.flat b 0) [] t j B → TP.Avl t → TP.hgt a ≤ TP.hgt t + 1 → TP.flat (TP.pjoin a v t) j ++ B = TP.flat (TP.pjoin a v b) 0 →
  Ev (fun n => spec_l2Join.l1 n ((TP.flat a 0).map mkS) ((TP.flat b 0).map mkS) (TP.hgt a : Int) [] ((TP.cnt t : Nat) : Int) j v.off v.len v.brk) R := by
 have hBa := Bd_flat a (by omega)
 have hBb := Bd_flat b (by omega)
 have hha := TP.hgt_le a
 have hla : ((TP.flat a 0).map mkS).length = TP.cnt a := by rw [List.length_map, TP.flat_length]
 have hlb : ((TP.flat b 0).map mkS).length = TP.cnt b := by rw [List.length_map, TP.flat_length]
 have hfin : ∀ (t : Tree) (B : List (Pc × Int)) (j : Int), 0 ≤ j → j + TP.cnt t ≤ TP.cnt b → TP.Seg (TP.flat b 0) [] t j B → ¬ TP.hgt a + 1 < TP.hgt t → TP.hgt a ≤ TP.hgt t + 1 → TP.flat (TP.pjoin a v t) j ++ B = TP.flat (TP.pjoin a v b) 0 →
   Ev (fun n => spec_l2Join.l1 n ((TP.flat a 0).map mkS) ((TP.flat b 0).map mkS) (TP.hgt a : Int) [] ((TP.cnt t : Nat) : Int) j v.off v.len v.brk) R := fun t B j hj0 hj hs hc hh hp => by
  have e := hs.eq
  have hl := hs.len
  rw [TP.flat_length] at hl
  simp only [List.length_nil, Nat.zero_add] at hl
  have hseg := seg_height ((TP.flat b 0).map mkS) (by rw [map_gx_mkS]; exact hs) (by rw [map_gx_mkS]; exact hBb)
  simp only [List.length_nil, Nat.zero_add] at hseg
  have hpj : TP.pjoin a v t = .node a v t := by unfold TP.pjoin; rw [if_neg (by omega), if_neg hc]
  rw [hpj] at hp
  have hBt : Bd (TP.flat t j) := by have := hBb; rw [e, List.append_assoc] at this; exact Bd_app this
  refine Ev.step (fun n => by rw [spec_l2Join.l1]) ?_
  refine Ev.bind hseg ?_
  refine Ev.congr (fun n => by rw [w64 (x := (TP.hgt a : Int) + 1) (by omega), if_neg (by omega), w64 (x := j + 1) (by omega)]) ?_
  refine Ev.bind (lift_ev _ (j + 1) hBa (by omega)) ?_
  refine Ev.congr (fun n => if_pos (by simp only [List.length_nil, List.length_map, TP.up_length, TP.flat_length]; omega)) ?_
  refine Ev.bind (ev_const fun _ => rfl) ?_
  refine Ev.congr (fun n => if_pos (by simp only [List.length_append, List.length_nil, List.length_map, TP.up_length, TP.flat_length]; omega)) ?_
  refine Ev.bind (ev_const fun _ => rfl) ?_
  refine Ev.congr (fun n => by rw [if_pos (by omega), if_pos (by omega), Int.toNat_natCast]) ?_
  have et : ((TP.flat b 0).map mkS).take (TP.cnt t) = (TP.flat t j).map mkS := by rw [e, List.nil_append, List.map_append, List.take_left' (by simp [TP.flat_length])]
  have ed : ((TP.flat b 0).map mkS).drop (TP.cnt t) = B.map mkS := by rw [e, List.nil_append, List.map_append, List.drop_left' (by simp [TP.flat_length])]
  rw [et, ed]
  refine Ev.bind (lift_ev _ 1 hBt (by omega)) ?_
  refine Ev.congr (fun n => if_pos (by simp only [List.length_append, List.length_nil, List.length_cons, List.length_map, TP.up_length, TP.flat_length]; omega)) ?_
  refine Ev.bind (ev_const fun _ => rfl) ?_
  refine Ev.bind (ev_const fun _ => rfl) ?_
  refine Ev.congr (fun n => if_pos (by simp only [List.length_append, List.length_nil, List.length_cons, List.length_map, TP.up_length, TP.flat_length]; omega)) ?_
  refine Ev.bind ?_ (ev_const fun _ => rfl)
  rw [← hp, TP.flat, ← flat_sh a (j + 1), TP.flat_up 1 t j] at hR
  simpa [mkS] using hR
 induction t with
 | nil => intro B j hj0 hj hs _ hh hp; exact hfin _ B j hj0 hj hs (by simp [TP.hgt]) hh hp
 | node l x r ihl _ =>
  intro B j hj0 hj hs hav hh hp
  by_cases c : TP.hgt a + 1 < TP.hgt (.node l x r)
  ·obtain ⟨hal, _, hv1, hv2⟩ := hav
   have hl := hs.len
   rw [TP.flat_length] at hl
   simp only [List.length_nil, Nat.zero_add] at hl
   have hn : ((TP.flat b 0).map mkS).length ≤ 20000 := by omega
   have hseg := seg_height ((TP.flat b 0).map mkS) (by rw [map_gx_mkS]; exact hs) (by rw [map_gx_mkS]; exact hBb)
   have hch := seg_child ((TP.flat b 0).map mkS) (by rw [map_gx_mkS]; exact hs) hn
   simp only [List.length_nil, Nat.zero_add] at hseg hch
   have key := ihl ((x, j) :: TP.flat r (j + 1) ++ B) (j + 1) (by omega) (by simp only [TP.cnt] at hj; omega) hs.left hal (by simp only [TP.hgt] at c; omega) (by
    rw [← hp]
    conv => rhs; unfold TP.pjoin
    rw [if_neg (by omega), if_pos c]; simp [TP.flat])
   simp only [TP.cnt] at hl hj
   refine Ev.step (fun n => by rw [spec_l2Join.l1]) ?_
   refine Ev.bind hseg ?_
   refine Ev.congr (fun n => by rw [w64 (x := (TP.hgt a : Int) + 1) (by omega), if_pos (by omega), w64 (x := j + 1) (by omega)]) ?_
   refine Ev.bind hch ?_
   exact key
  ·exact hfin _ B j hj0 hj hs c hh hp
theorem pjoin_cnt (n : Nat) : ∀ (a : Tree) (v : Pc) (b : Tree), TP.cnt a + TP.cnt b ≤ n → TP.cnt (TP.pjoin a v b) = TP.cnt a + TP.cnt b + 1 := by
 induction n with
 | zero =>
  intro a v b h
  cases a with
  | node l x r => simp only [TP.cnt] at h; omega
  | nil =>
   cases b with
   | node l x r => simp only [TP.cnt] at h; omega
   | nil => unfold TP.pjoin; rw [if_neg (by simp [TP.hgt]), if_neg (by simp [TP.hgt])]; rfl
 | succ n ih =>
  intro a v b h
  unfold TP.pjoin
  by_cases c1 : TP.hgt b + 1 < TP.hgt a
  ·rw [if_pos c1]
   cases a with
   | nil => simp [TP.hgt] at c1
   | node l x r =>
    simp only [TP.cnt] at h ⊢
    rw [ih r v b (by omega)]; omega
  rw [if_neg c1]
  by_cases c2 : TP.hgt a + 1 < TP.hgt b
  ·rw [if_pos c2]
   cases b with
   | nil => simp [TP.hgt] at c2
   | node l x r =>
    simp only [TP.cnt] at h ⊢
    rw [ih a v l (by omega)]; omega
  ·rw [if_neg c2]; rfl
theorem join_ev (a b : Tree) (v : Pc) (ha : TP.Avl a) (hb : TP.Avl b) (hca : TP.cnt a ≤ 9000) (hcb : TP.cnt b ≤ 9000) : Ev (fun n => spec_l2Join.f n ((TP.flat a 0).map mkS) v.off v.len v.brk ((TP.flat b 0).map mkS)) ((TP.flat (TP.joined a v b) 0).map mkS) := by
 obtain ⟨m, hm, hch⟩ := TP.chain_join _ [] a v b (Nat.le_refl _) (fun f h => by cases h) ha hb
 simp only [TP.plug] at hch
 have hav := (TP.joined_ok _ a v b (Nat.le_refl _) ha hb).1
 have hpc : TP.cnt (TP.pjoin a v b) = TP.cnt a + TP.cnt b + 1 := by
  exact pjoin_cnt _ a v b (Nat.le_refl _)
 have hrep := repair_ev hch hav (by omega) (by omega)
 have hBa := Bd_flat a (by omega)
 have hBb := Bd_flat b (by omega)
 have hha := TP.hgt_le a
 have hhb := TP.hgt_le b
 have hla : ((TP.flat a 0).map mkS).length = TP.cnt a := by rw [List.length_map, TP.flat_length]
 have hlb : ((TP.flat b 0).map mkS).length = TP.cnt b := by rw [List.length_map, TP.flat_length]
 have ga := seg_height ((TP.flat a 0).map mkS) (by rw [map_gx_mkS]; exact seg_whole a) (by rw [map_gx_mkS]; exact hBa)
 have gb := seg_height ((TP.flat b 0).map mkS) (by rw [map_gx_mkS]; exact seg_whole b) (by rw [map_gx_mkS]; exact hBb)
 simp only [List.length_nil, Nat.zero_add] at ga gb
 unfold spec_l2Join.f
 rw [hla, hlb]
 refine Ev.bind ga ?_
 refine Ev.bind gb ?_
 refine Ev.bind (ev_const fun _ => rfl) ?_
 by_cases c1 : TP.hgt b + 1 < TP.hgt a
 ·refine Ev.congr (fun n => by rw [w64 (x := (TP.hgt b : Int) + 1) (by omega), if_pos (by omega)]) ?_
  exact join_r a b v (by omega) (by omega) _ hrep a [] 0 (by omega) (by omega) (seg_whole a) ha (by omega) (by simp)
 refine Ev.congr (fun n => by rw [w64 (x := (TP.hgt b : Int) + 1) (by omega), if_neg (by omega), w64 (x := (TP.hgt a : Int) + 1) (by omega)]) ?_
 by_cases c2 : TP.hgt a + 1 < TP.hgt b
 ·refine Ev.congr (fun n => if_pos (by omega)) ?_
  exact join_l a b v (by omega) (by omega) _ hrep b [] 0 (by omega) (by omega) (seg_whole b) hb (by omega) (by simp)
 ·refine Ev.congr (fun n => if_neg (by omega)) ?_
  have hpj : TP.pjoin a v b = .node a v b := by unfold TP.pjoin; rw [if_neg c1, if_neg c2]
  rw [hpj] at hrep
  refine Ev.bind (lift_ev _ 1 hBa (by omega)) ?_
  refine Ev.congr (fun n => if_pos (by simp only [List.length_nil, List.length_map, TP.up_length, TP.flat_length]; omega)) ?_
  refine Ev.bind (ev_const fun _ => rfl) ?_
  refine Ev.congr (fun n => if_pos (by simp only [List.length_append, List.length_nil, List.length_map, TP.up_length, TP.flat_length]; omega)) ?_
  refine Ev.bind (ev_const fun _ => rfl) ?_
  refine Ev.bind (lift_ev _ 1 hBb (by omega)) ?_
  refine Ev.congr (fun n => if_pos (by simp only [List.length_append, List.length_nil, List.length_cons, List.length_map, TP.up_length, TP.flat_length]; omega)) ?_
  refine Ev.bind ?_ (ev_const fun _ => rfl)
  rw [TP.flat, show (0 : Int) + 1 = 1 from rfl, ← flat_sh a 1, ← flat_sh b 1] at hrep
  simpa [mkS] using hrep
theorem toIt_cb (L : List (Pc × Int)) : (L.map toIt).map cb = L.map mkS := by rw [List.map_map]; rfl
theorem first_flat (l : Tree) (x : Pc) (r : Tree) (k : Int) : ∃ y i L, TP.first (.node l x r) = some y ∧ TP.flat (.node l x r) k = (y, i) :: L := by
 have h := TP.first_toL (.node l x r)
 rw [← TP.flat_toL _ k] at h
 cases e : TP.flat (.node l x r) k with
 | nil => exact absurd (congrArg List.length e) (by rw [TP.flat_length]; simp [TP.cnt])
 | cons z L => rw [e] at h; exact ⟨z.1, z.2, L, h, rfl⟩
theorem both_ev (a b : Tree) (ha : TP.Avl a) (hb : TP.Avl b) (hca : TP.cnt a ≤ 9000) (hcb : TP.cnt b ≤ 9000) : Ev (fun n => spec_l2Both.f n ((TP.flat a 0).map mkS) ((TP.flat b 0).map mkS)) ((TP.flat (TP.together a b) 0).map mkS) := by
 have la : ((TP.flat a 0).map mkS).length = TP.cnt a := by rw [List.length_map, TP.flat_length]
 have lb : ((TP.flat b 0).map mkS).length = TP.cnt b := by rw [List.length_map, TP.flat_length]
 unfold spec_l2Both.f
 cases a with
 | nil =>
  refine Ev.congr (fun n => if_pos (by simp [TP.flat])) ?_
  exact ev_const fun _ => by rw [copy_is _ (by omega)]; rfl
 | node p z q =>
  have hpa : 0 < TP.cnt (.node p z q) := TP.cnt_pos_of _ _ _
  refine Ev.congr (fun n => if_neg (by omega)) ?_
  cases b with
  | nil =>
   refine Ev.congr (fun n => if_pos (by simp [TP.flat])) ?_
   exact ev_const fun _ => by rw [copy_is _ (by omega)]; rfl
  | node l x r =>
   have hpb : 0 < TP.cnt (.node l x r) := TP.cnt_pos_of _ _ _
   refine Ev.congr (fun n => if_neg (by omega)) ?_
   obtain ⟨y, i, L, h1, h2⟩ := first_flat l x r 0
   have hd := delete_ev (.node l x r) 0 hpb hb (by omega)
   obtain ⟨r1, r2, r3, -⟩ := TP.remove_ok (.node l x r) 0 hb hpb
   have hj := join_ev (.node p z q) (TP.remove (.node l x r) 0) y ha r1 hca (by have := removeIn_cnt (.node l x r) 0 hpb; omega)
   have et : TP.together (.node p z q) (.node l x r) = TP.joined (.node p z q) y (TP.remove (.node l x r) 0) := by
    unfold TP.together; simp only [TP.pick]; rw [h1]; rfl
   rw [et]
   have hr0 : rd_T54 ((TP.flat (.node l x r) 0).map mkS) 0 = mkS (y, i) := by
    rw [h2]; rfl
   refine Ev.congr (fun n => if_pos (by omega)) ?_
   refine Ev.bind hd ?_
   rw [hr0]
   exact Ev.bind hj (ev_const fun _ => rfl)
theorem spec_ev (xs ys : List S54) : Ev (fun k => spec_TreeJoin.f k xs ys) ((treeJoinV (xs.map cv) (ys.map cv)).1.map cb, (treeJoinV (xs.map cv) (ys.map cv)).2) := by
 unfold spec_TreeJoin.f treeJoinV
 refine Ev.bind (valid_ev xs) ?_
 cases hV : grownV (xs.map cv) with
 | none =>
  refine Ev.congr (fun k => if_neg (by simp)) ?_
  exact ev_now fun k => by simp only [spec_TreeJoin.j0]; rw [if_pos trivial]; rfl
 | some t =>
  refine Ev.congr (fun k => if_pos (by simp)) ?_
  refine Ev.bind (valid_ev ys) ?_
  cases hV2 : grownV (ys.map cv) with
  | none => exact ev_now fun k => by simp only [spec_TreeJoin.j0]; rw [if_pos (by simp)]; rfl
  | some u =>
   obtain ⟨h1, h2, h3, h4, h5, h6⟩ := grownV_toL hV
   obtain ⟨f1, f2, f3, f4⟩ := grownV_fine hV
   obtain ⟨g1, g2, g3, g4, g5, g6⟩ := grownV_toL hV2
   obtain ⟨e1, e2, e3, e4⟩ := grownV_fine hV2
   rw [List.length_map] at h4 f4 g4 e4
   have ht := total_ev xs h4 h5
   have hu := total_ev ys g4 g5
   have hx := flat_of_grown hV
   have hy := flat_of_grown hV2
   have hb := both_ev t u h2 g2 (by omega) (by omega)
   rw [← hx, ← hy] at hb
   refine Ev.step (fun k => by simp only [spec_TreeJoin.j0]; rw [if_neg (by simp)]) ?_
   refine Ev.bind ht ?_
   refine Ev.bind hu ?_
   rw [← f2, ← e2]
   have p1 := f1.pos
   have p2 := e1.pos
   refine Ev.congr (fun k => by rw [w64 (by omega)]) ?_
   simp only
   by_cases c3 : rl t + rl u ≤ 8192
   ·rw [if_pos c3]
    refine Ev.congr (fun k => if_neg (by omega)) ?_
    refine Ev.bind hb ?_
    exact ev_const fun _ => by rw [toIt_cb]
   ·rw [if_neg c3]
    exact ev_const fun k => if_pos (by omega)
theorem treeJoinV_len (xs ys : List It) : (treeJoinV xs ys).1.length ≤ 100000 := by
 unfold treeJoinV
 cases hV : grownV xs with
 | none => simp
 | some t =>
  cases hV2 : grownV ys with
  | none => simp
  | some u =>
   obtain ⟨h1, h2, h3, h4, h5, h6⟩ := grownV_toL hV
   obtain ⟨f1, f2, f3, f4⟩ := grownV_fine hV
   obtain ⟨g1, g2, g3, g4, g5, g6⟩ := grownV_toL hV2
   obtain ⟨e1, e2, e3, e4⟩ := grownV_fine hV2
   simp only
   split
   ·simp only
    rw [List.length_map, TP.flat_length, together_cnt]
    omega
   ·simp
theorem szTree_val (xs : List S128) (v : Int) (hv : 0 ≤ v ∧ v ≤ 1048576) (hm : xs.length ≤ 9223372036854775807) : laws_szTree.f xs v = some (if (xs.length : Int) ≤ v then v - (xs.length : Int) else -1) := by
 unfold laws_szTree.f laws_szItemS.f
 rw [w64 (by omega)]
 by_cases c : (xs.length : Int) ≤ v
 ·rw [if_neg (by omega), if_pos c]
  simp only [Option.bind_some]
  rw [if_neg (by omega)]
 ·rw [if_pos (by omega), if_neg c]
  rfl
theorem law (xs us : List S128) (hm : xs.length ≤ 9223372036854775807) (hm2 : us.length ≤ 9223372036854775807) : ∃ k, laws_FnExactTreeJoin.f k xs us = some true := by
 refine Ev.rounds (g := fun k => laws_FnExactTreeJoin.f k xs us) ?_
 unfold laws_FnExactTreeJoin.f
 by_cases hn : 1048576 < xs.length
 ·exact ev_const fun k => by rw [szTree_val xs 1048576 (by omega) hm, if_neg (by omega), Option.bind_some, if_pos (by omega)]
 have hv := szTree_val xs 1048576 (by omega) hm
 rw [if_pos (by omega)] at hv
 refine Ev.bind (ev_const fun _ => hv) ?_
 refine Ev.congr (fun k => if_neg (by omega)) ?_
 have hv2 := szTree_val us (1048576 - (xs.length : Int)) (by omega) hm2
 refine Ev.bind (ev_const fun _ => hv2) ?_
 by_cases hn2 : (us.length : Int) ≤ 1048576 - (xs.length : Int)
 ·rw [if_pos hn2]
  refine Ev.congr (fun k => if_neg (by omega)) ?_
  have hn' : xs.length ≤ 1048576 := by omega
  have hn2' : us.length ≤ 1048576 := by omega
  have hl := treeJoinV_len ((xs.map tv).map cv) ((us.map tv).map cv)
  have hs := spec_ev (xs.map tv) (us.map tv)
  have hi : impl_TreeJoin.f (xs.map tv) (us.map tv) = some ((treeJoinV ((xs.map tv).map cv) ((us.map tv).map cv)).1.map cb, (treeJoinV ((xs.map tv).map cv) ((us.map tv).map cv)).2) := by unfold impl_TreeJoin.f; rw [if_pos (by rw [List.length_map, List.length_map]; omega)]
  generalize treeJoinV ((xs.map tv).map cv) ((us.map tv).map cv) = R at hl hs hi
  obtain ⟨zs, c⟩ := R
  simp only at hl hs hi
  obtain ⟨ys, hys⟩ : ∃ ys, zs.map cb = ys := ⟨_, rfl⟩
  have hyl : ys.length ≤ 100000 := by rw [← hys, List.length_map]; exact hl
  rw [hys] at hs hi
  clear hys hl
  have hml : (xs.map tv).length ≤ 1048576 := by rw [List.length_map]; exact hn'
  have hml2 : (us.map tv).length ≤ 1048576 := by rw [List.length_map]; exact hn2'
  refine Ev.bind (toTree_ev xs hn') ?_
  refine Ev.bind (toTree_ev us hn2') ?_
  refine Ev.bind hs ?_
  refine Ev.bind (toTree_ev xs hn') ?_
  refine Ev.bind (toTree_ev us hn2') ?_
  refine Ev.bind (ev_const fun _ => hi) ?_
  refine Ev.bind (eqTree_ev ys (by omega)) ?_
  refine Ev.congr (fun k => if_pos rfl) ?_
  refine Ev.step (fun k => by simp only [laws_FnExactTreeJoin.j0]; rw [if_neg (by simp)]) ?_
  refine Ev.bind (toTree_ev xs hn') ?_
  refine Ev.bind (eqTree_ev _ (by omega)) ?_
  refine Ev.congr (fun k => if_pos rfl) ?_
  refine Ev.bind (toTree_ev us hn2') ?_
  refine Ev.bind (eqTree_ev _ (by omega)) ?_
  refine Ev.congr (fun k => if_pos rfl) ?_
  refine Ev.bind (markTree_ev (xs.map tv) (by omega)) ?_
  refine Ev.bind (markTree_from _ (by dsimp only; omega) (us.map tv) (by omega)) ?_
  refine Ev.congr (fun k => if_neg (by dsimp only; omega)) ?_
  refine Ev.bind (eqTree_ev ys (by omega)) ?_
  refine Ev.congr (fun k => if_pos rfl) ?_
  refine Ev.step (fun k => by simp only [laws_FnExactTreeJoin.j1]; rw [if_neg (by simp)]) ?_
  refine Ev.bind (markTree_ev ys (by omega)) ?_
  refine Ev.bind (heldTree_ev ys.length (by omega)) ?_
  refine Ev.congr (fun k => if_neg (by omega)) ?_
  refine Ev.congr (fun k => if_pos rfl) ?_
  refine Ev.bind (toTree_ev xs hn') ?_
  refine Ev.bind (toTree_ev us hn2') ?_
  refine Ev.bind (ev_const fun _ => hi) ?_
  refine Ev.bind (eqTree_ev ys (by omega)) ?_
  refine Ev.congr (fun k => if_pos rfl) ?_
  refine Ev.step (fun k => by simp only [laws_FnExactTreeJoin.j2]; rw [if_neg (by simp)]) ?_
  refine Ev.bind (heldTree_ev ys.length (by omega)) ?_
  refine Ev.congr (fun k => if_neg (by omega)) ?_
  exact ev_const fun k => if_pos rfl
 ·rw [if_neg hn2]
  exact ev_const fun k => if_pos (by omega)
end Go.Proofs.YtciabhncmdpeeaaDoor.PureFnExactTreeJoin
namespace Go.Proofs.YtciabhncmdpeeaaDoor.fnExactTreeJoin
open Go.ChangeShapes Go.WideShapes Go.ChangeAt Go.RowKit Go.Joins Go.Deep Go.Proofs.YtciabhncmdpeeaaDoorW.PrintWords
open Go.ChangeMaps (open_string shut_string)
set_option linter.unusedVariables false
set_option linter.unusedSimpArgs false
theorem own : ownKnob Tryd.prog.godebug = none := by kernel_rfl
theorem laidOut : laidOutB Tryd.prog = true := by kernel_rfl
theorem gv : Tryd.prog.globalNamed "errors.errorType" = some 0 := by kernel_rfl
theorem rt : (Tryd.prog.cutTypes.find? (·.1 == "internal/reflectlite.rtype")).map (·.2) = some 184 := by kernel_rfl
theorem oneRow : ((List.range 228).filter fun t => Tryd.prog.rowNamed t [101, 114, 114, 111, 114]) = [85] := by kernel_rfl
theorem size : Tryd.prog.types.size = 228 := by kernel_rfl
def laid : List (String × DataW Unit) := [("errors.errorType", Rows.laid_errors_errorType)]
theorem hg_of_laid {W : World} (h : laidMetH Tryd.prog laid W) : Er.HG W := by
 have h' : laidMet Tryd.prog [] W ∧ handlesMet Tryd.prog laid W := h
 obtain ⟨name, u, ty, e1, e2, e3, e4, e5⟩ := h'.2 _ (List.mem_singleton.2 rfl)
 have en : name = [101, 114, 114, 111, 114] := (Option.some.inj e1).symm
 subst en
 obtain rfl := Option.some.inj (rt.symm.trans e2)
 have hm : ty ∈ (List.range 228).filter fun t => Tryd.prog.rowNamed t [101, 114, 114, 111, 114] := List.mem_filter.2 ⟨List.mem_range.2 (by rw [← size]; exact e3), e4⟩
 rw [oneRow] at hm
 obtain rfl := List.mem_singleton.1 hm
 have hh : typeHandle Tryd.prog 85 = .pointer (some ⟨1, 85, none⟩) := by kernel_rfl
 rw [hh] at e5
 unfold Er.HG
 simpa using World.var?_cell gv e5 0
noncomputable def laidWorld (os : Os) : World :=
 let w0 := World.holding Tryd.prog os ⟨#[], #[], []⟩
 { w0 with heap := w0.heap.modify 0 fun
   | .cells _ t frozen => .cells #[.iface 184 (.agg #[.pointer (some ⟨1, 85, none⟩)])] t frozen
   | o => o }
theorem laidWorld_met (os : Os) (args : Array Value) : laidMetH Tryd.prog laid ((laidWorld os).forCall (fun _ _ => 0) ⟨#[], args, []⟩).memory :=
 laidMetH_of_parts (laidMet_nil _ _) (by kernel_rfl)
def IsRow (k : IntKind) (w : World) (a : Option Addr) (len cap : Nat) (zs : List Int) : Prop :=
 (a = none ∧ len = 0 ∧ cap = 0 ∧ zs = []) ∨
 ∃ x, a = some x ∧ len ≤ cap ∧ cap ≤ maxLen ∧ zs.length = cap ∧ (∀ i, i < zs.length → w.cell? (x.add i) = some (.int k (zs.getD i 0))) ∧ ∀ n ∈ zs, (Lit.int k n).wf = true
def w_ (W : World) (base : Nat) (a : Addr) (n : Nat) (cs : List Value) : Prop := W.cells? base a n = some cs
theorem trodC {α : Type} {H : Type} {enc : TypeId × Value → H} {P : Program} {W : World} {base : Nat} {spare : Nat → Bool} {held : Bool} {fuel : Nat} {t e : TypeId} {cs : List Value} {x : DataW H × List MemPlace} (hu : P.underlying t = some (.slice e)) (d : Kd α) (hC : P.cellsOf e = d.sz)
  (hE : ∀ n cs x, DataW.trod enc P W base spare held n e cs = some x → ∃ p, d.K W p cs) (h : DataW.trod enc P W base spare held fuel t cs = some x) :
  ∃ A_ len c_ xs, cs = [.slice A_ len c_] ∧ len = List.length xs ∧ xs.length ≤ c_ ∧ xs.length ≤ 9223372036854775807 ∧ d.C W A_ xs.length xs := by
 rcases open_slice hu h with ⟨h0, _⟩ | ⟨a, len, cap, m, n, D, Pl, hcs, hb, hl, hm, hmm, hx, hi⟩
 ·exact ⟨none, 0, 0, [], h0, rfl, Nat.le_refl _, by simp, Kd.C_nil d W⟩
 ·have hlm : len ≤ m := by rw [hmm]; split <;> omega
  have key : ∀ i, i < len → ∃ p : α, ∃ cs', w_ W base (a.add (i * d.sz)) d.sz cs' ∧ d.K W p cs' := by
   intro i hil
   obtain ⟨cs', hc, ht⟩ := hi i (by omega)
   obtain ⟨p, hp⟩ := hE _ _ _ ht
   rw [hC] at hc
   exact ⟨p, cs', hc, hp⟩
  have hmx : len ≤ 9223372036854775807 := by unfold maxLen at hm; omega
  by_cases h0 : len = 0
  ·subst h0
   refine ⟨some a, 0, cap, [], hcs, rfl, Nat.zero_le _, by simp, rfl, by simp, fun h => by simp at h⟩
  ·obtain ⟨p0, _⟩ := key 0 (by omega)
   haveI : Inhabited α := ⟨p0⟩
   obtain ⟨f, hf⟩ := choose_lt key
   refine ⟨some a, len, cap, (List.range len).map f, hcs, by simp, by simpa using hl, by simpa using hmx, rfl, by simpa using hmx, fun _ => ⟨a, rfl, fun j p hj => ?_⟩⟩
   have hjl : j < len := by
    have := (List.getElem?_eq_some_iff.1 hj).1
    simpa using this
   have hp : p = f j := by
    rw [List.getElem?_map, List.getElem?_range hjl] at hj
    exact (Option.some.inj hj).symm
   obtain ⟨cs', hc, hk⟩ := hf j hjl
   obtain ⟨_, hlen, hat⟩ := World.cells?_some hc
   refine ⟨cs', hlen, by rw [hp]; exact hk, fun i u hu2 => ?_⟩
   have hil : i < d.sz := by
    have := (List.getElem?_eq_some_iff.1 hu2).1
    omega
   rw [← Deep.add_add, hat i hil]; exact hu2
theorem trodK_3 {H : Type} {enc : TypeId × Value → H} {W : World} {base : Nat} {spare : Nat → Bool} {held : Bool} {fuel : Nat} {cs : List Value} {x : DataW H × List MemPlace} (h : DataW.trod enc Tryd.prog W base spare held fuel 3 cs = some x) : ∃ p : Int, (Kd.int .i64).K W p cs := by
 obtain ⟨n, e, _⟩ := DataW.trod_int Tryd.underlying3 h
 exact ⟨n, e⟩
theorem cells3 : Tryd.prog.cellsOf 3 = 1 := by kernel_rfl
theorem cells76 : Tryd.prog.cellsOf 76 = 3 := by kernel_rfl
theorem list3 {l : List Value} (h : l.length = 3) : ∃ b0 b1 b2, l = [b0, b1, b2] := by
 match l, h with
 | [b0, b1, b2], _ => exact ⟨b0, b1, b2, rfl⟩
set_option maxRecDepth 100000 in
theorem trodK_76 {H : Type} {enc : TypeId × Value → H} {W : World} {base : Nat} {spare : Nat → Bool} {held : Bool} {fuel : Nat} {cs : List Value} {x : DataW H × List MemPlace} (h : DataW.trod enc Tryd.prog W base spare held fuel 76 cs = some x) : ∃ p : QFnExactTreeJoin.S76, QFnExactTreeJoin.k76.K W p cs := by
 obtain ⟨xs, n, _, _, hl, hx, hf⟩ := DataW.trod_struct Tryd.underlying76 h
 rw [cells76] at hl
 obtain ⟨c0, c1, c2, rfl⟩ := list3 hl
 have h0 := hf 0 _ rfl
 obtain ⟨y0, hy0⟩ : ∃ y, xs[0]? = some y := ⟨_, List.getElem?_eq_getElem (by rw [hx]; decide)⟩
 rw [hy0] at h0
 try simp only [cells3, List.drop_zero, List.drop_succ_cons, List.take_succ_cons, List.take_zero] at h0
 obtain ⟨p0, k0⟩ := trodK_3 (cs := [c0]) h0
 have h1 := hf 1 _ rfl
 obtain ⟨y1, hy1⟩ : ∃ y, xs[1]? = some y := ⟨_, List.getElem?_eq_getElem (by rw [hx]; decide)⟩
 rw [hy1] at h1
 try simp only [cells3, List.drop_zero, List.drop_succ_cons, List.take_succ_cons, List.take_zero] at h1
 obtain ⟨p1, k1⟩ := trodK_3 (cs := [c1]) h1
 have h2 := hf 2 _ rfl
 obtain ⟨y2, hy2⟩ : ∃ y, xs[2]? = some y := ⟨_, List.getElem?_eq_getElem (by rw [hx]; decide)⟩
 rw [hy2] at h2
 try simp only [cells3, List.drop_zero, List.drop_succ_cons, List.take_succ_cons, List.take_zero] at h2
 obtain ⟨p2, k2⟩ := trodK_3 (cs := [c2]) h2
 exact ⟨⟨p0, p1, p2⟩, ⟨[c0], [c1, c2], rfl, k0, ⟨[c1], [c2], rfl, k1, k2⟩⟩⟩
theorem cells128 : Tryd.prog.cellsOf 128 = 4 := by kernel_rfl
theorem list4 {l : List Value} (h : l.length = 4) : ∃ b0 b1 b2 b3, l = [b0, b1, b2, b3] := by
 match l, h with
 | [b0, b1, b2, b3], _ => exact ⟨b0, b1, b2, b3, rfl⟩
set_option maxRecDepth 100000 in
theorem trodK_128 {H : Type} {enc : TypeId × Value → H} {W : World} {base : Nat} {spare : Nat → Bool} {held : Bool} {fuel : Nat} {cs : List Value} {x : DataW H × List MemPlace} (h : DataW.trod enc Tryd.prog W base spare held fuel 128 cs = some x) : ∃ p : QFnExactTreeJoin.S128, QFnExactTreeJoin.k128.K W p cs := by
 obtain ⟨xs, n, _, _, hl, hx, hf⟩ := DataW.trod_struct Tryd.underlying128 h
 rw [cells128] at hl
 obtain ⟨c0, c1, c2, c3, rfl⟩ := list4 hl
 have h0 := hf 0 _ rfl
 obtain ⟨y0, hy0⟩ : ∃ y, xs[0]? = some y := ⟨_, List.getElem?_eq_getElem (by rw [hx]; decide)⟩
 rw [hy0] at h0
 try simp only [cells76, List.drop_zero, List.drop_succ_cons, List.take_succ_cons, List.take_zero] at h0
 obtain ⟨p0, k0⟩ := trodK_76 (cs := [c0, c1, c2]) h0
 have h1 := hf 1 _ rfl
 obtain ⟨y1, hy1⟩ : ∃ y, xs[1]? = some y := ⟨_, List.getElem?_eq_getElem (by rw [hx]; decide)⟩
 rw [hy1] at h1
 try simp only [cells3, List.drop_zero, List.drop_succ_cons, List.take_succ_cons, List.take_zero] at h1
 obtain ⟨p1, k1⟩ := trodK_3 (cs := [c3]) h1
 exact ⟨⟨p0, p1⟩, ⟨[c0, c1, c2], [c3], rfl, k0, k1⟩⟩
theorem cells22 : Tryd.prog.cellsOf 22 = 1 := by kernel_rfl
theorem cells24 : Tryd.prog.cellsOf 24 = 1 := by kernel_rfl
theorem list1 {l : List Value} (h : l.length = 1) : ∃ b0, l = [b0] := by
 match l, h with
 | [b0], _ => exact ⟨b0, rfl⟩
set_option maxRecDepth 100000 in
theorem lifted (os : Os) (started : os.Started) (H : Type) (enc : TypeId × Value → H) :
  ReturnsInHanded {} Tryd.checked os 14 .any (fun w args => (Rows.fnExactTreeJoinSpec.pre enc Tryd.prog Tryd.f14 [] false w args ∧ laidMetH Tryd.prog laid w) ∧ sizedMet enc Tryd.prog Tryd.f14 (OpenSpec.ofChange Rows.fnExactTreeJoinSpec) false w args)
   (Rows.fnExactTreeJoinSpec.post enc Tryd.prog Tryd.f14 false true false false) := by
 refine returnsInHanded_of_change_and (C := Tryd.checked) (X := fun w _ => laidMetH Tryd.prog laid w) (fun _ _ _ hh h => h.of_heap hh) own started (by kernel_rfl) Tryd.func14
  (ChangeSpec.witness_at (enc := enc) (C := Tryd.checked) (os := os) (X := fun w _ => laidMetH Tryd.prog laid w) false (laidWorld os) #[.agg #[.slice none 0 0], .agg #[.slice none 0 0]] 8 rfl (by kernel_rfl) (by kernel_rfl) (by kernel_rfl) (by kernel_rfl) (by kernel_rfl) (laidWorld_met os _)) ?_
 intro W base args ds gs before hval0 hW _ _ hL _
 have hval : ∀ (j : Nat) t v, Tryd.f14.params[j]? = some t → args[j]? = some v → Value.okWide Tryd.prog W .any base t v := hval0
 have hW' := hW
 obtain ⟨p, q, hA0, hV0, rfl, hfz, hnd⟩ := hW
 have hA : DataW.TrodAll enc Tryd.prog W 0 (fun _ => true) true Tryd.f14.params.toList args.toList ds p := hA0
 have hV : DataW.TrodVars enc Tryd.prog W (fun _ => true) [] gs q := hV0
 rw [Tryd.params14] at hA hval
 obtain ⟨v0, vs0, d0, ds0, p0, q0, hargs, rfl, rfl, h0, r0⟩ := trodAll_cons hA
 obtain ⟨v1, vs1, d1, ds1, p1, q1, rfl, rfl, rfl, h1, r1⟩ := trodAll_cons r0
 obtain ⟨rfl, rfl, rfl⟩ := trodAll_nil r1
 obtain rfl : args = #[v0, v1] := by cases args; simp_all
 obtain ⟨rfl, rfl⟩ := trodVars_none hV
 have k0 := h0
 have lt0 : ∀ x ∈ p0, x.block < W.heap.size := by obtain ⟨m, hm⟩ := k0; exact DataW.trod_lt m _ _ _ hm
 obtain ⟨cs0, rfl, hcz0⟩ := okWide_struct Tryd.underlying24 (hval 0 24 v0 rfl rfl)
 obtain ⟨fu0, hfu0⟩ := h0
 obtain ⟨xs0, n0, _, _, hll0, hxl0, hff0⟩ := DataW.trod_struct Tryd.underlying24 hfu0
 rw [cells24] at hcz0
 obtain ⟨cl0⟩ := cs0
 obtain ⟨e0_0, rfl⟩ := list1 (show cl0.length = 1 by simpa using hcz0)
 have g0_0 := hff0 0 _ rfl
 obtain ⟨yy0_0, hy0_0⟩ : ∃ y, xs0[0]? = some y := ⟨_, List.getElem?_eq_getElem (by rw [hxl0]; decide)⟩
 rw [hy0_0] at g0_0
 try simp only [Value.cells, cells22, List.drop_zero, List.drop_succ_cons, List.take_succ_cons, List.take_zero] at g0_0
 obtain ⟨A0_0, len0_0, c0_0, l0_0, el0_0, rfl, hc0_0, hm0_0, hr0_0⟩ := trodC (cs := [e0_0]) Tryd.underlying22 QFnExactTreeJoin.k128 (cells128.trans rfl) (fun n cs x h => trodK_128 h) g0_0
 obtain rfl : e0_0 = .slice A0_0 l0_0.length c0_0 := by simpa using el0_0
 have k1 := h1
 have lt1 : ∀ x ∈ p1, x.block < W.heap.size := by obtain ⟨m, hm⟩ := k1; exact DataW.trod_lt m _ _ _ hm
 obtain ⟨cs1, rfl, hcz1⟩ := okWide_struct Tryd.underlying24 (hval 1 24 v1 rfl rfl)
 obtain ⟨fu1, hfu1⟩ := h1
 obtain ⟨xs1, n1, _, _, hll1, hxl1, hff1⟩ := DataW.trod_struct Tryd.underlying24 hfu1
 rw [cells24] at hcz1
 obtain ⟨cl1⟩ := cs1
 obtain ⟨e1_0, rfl⟩ := list1 (show cl1.length = 1 by simpa using hcz1)
 have g1_0 := hff1 0 _ rfl
 obtain ⟨yy1_0, hy1_0⟩ : ∃ y, xs1[0]? = some y := ⟨_, List.getElem?_eq_getElem (by rw [hxl1]; decide)⟩
 rw [hy1_0] at g1_0
 try simp only [Value.cells, cells22, List.drop_zero, List.drop_succ_cons, List.take_succ_cons, List.take_zero] at g1_0
 obtain ⟨A1_0, len1_0, c1_0, l1_0, el1_0, rfl, hc1_0, hm1_0, hr1_0⟩ := trodC (cs := [e1_0]) Tryd.underlying22 QFnExactTreeJoin.k128 (cells128.trans rfl) (fun n cs x h => trodK_128 h) g1_0
 obtain rfl : e1_0 = .slice A1_0 l1_0.length c1_0 := by simpa using el1_0
 have hg := hg_of_laid hL
 obtain ⟨k, hk⟩ := PureFnExactTreeJoin.law l0_0 l1_0 hm0_0 hm1_0
 clear hA0 hval0
 refine (QFnExactTreeJoin.laws_FnExactTreeJoin.calls k _ _ l0_0 _ _ l1_0 true W hr0_0 hc0_0 hr1_0 hc1_0 hg hk).mono fun e W' ⟨he, bel⟩ => ?_
 subst he
 exact ⟨_, rfl, _, _, _, [], _, [], hW', trodAll_mk1 (shut_bool Tryd.underlying4 _), (trodAll_cons_mk (Below.trod laidOut (by kernel_rfl) (of_decide_eq_true (by kernel_rfl)) k0 bel lt0) (trodAll_cons_mk (Below.trod laidOut (by kernel_rfl) (of_decide_eq_true (by kernel_rfl)) k1 bel lt1) trodAll_mk0)), rfl, bel.frame _, fun h => by cases h⟩
theorem over : Rows.fnExactTreeJoinRow.holds Tryd.pinned (OpenSpec.ofChange Rows.fnExactTreeJoinSpec) :=
 OpenClaim.holds_of_wide 14 Tryd.f14 rfl rfl rfl rfl rfl rfl rfl ⟨rfl, rfl, rfl, rfl, rfl⟩ rfl rfl rfl rfl rfl (by kernel_rfl) Tryd.func14 (by kernel_rfl)
  (of_decide_eq_true (by kernel_rfl)) (by unfold Func.isWrapper; first | (rw [if_pos (by decide +kernel)]; kernel_rfl) | (rw [if_neg (by decide +kernel)]; exact ⟨rfl, rfl⟩))
  (fun os started H enc _ => lifted os started H enc)
theorem card : Rows.FnExactTreeJoinCardSaid :=
 Claim7.holds_tied_plain_at .later [] [.handle] true (true, "e0454929327e22bd092071c42d39c400e2b17edddf6e3c7cf096c95d0d055bc9") true
  over (fun _ h => by cases h) (by kernel_rfl) (fun _ h => by cases h) fnExactTreeJoin_row_tie rfl ⟨rfl, rfl⟩ (by kernel_rfl) rfl
  (fun f fn hf hfn => by
   obtain rfl : f = 14 := Option.some.inj ((show Tryd.prog.funcNamed "loop.example/s01685/laws.FnExactTreeJoin" = some 14 by kernel_rfl).symm.trans hf) |>.symm
   obtain rfl : fn = Tryd.f14 := (Option.some.inj (Tryd.func14.symm.trans hfn)).symm
   exact ⟨by kernel_rfl, fun j t ht => by
    rw [Tryd.params14] at ht
    have hm : t ∈ [24, 24] := by simpa using Array.mem_of_getElem? ht
    have hall : ([24, 24].all fun u => !Tryd.prog.wantsStandIn u) = true := by kernel_rfl
    exact (show Tryd.prog.wantsStandIn t = false by simpa using List.all_eq_true.1 hall t hm)⟩)
  (by kernel_rfl)
#print axioms card
end Go.Proofs.YtciabhncmdpeeaaDoor.fnExactTreeJoin
namespace Go.Proofs.YtciabhncmdpeeaaDoor
theorem fnExactTreeJoin_holds : Rows.FnExactTreeJoinCardSaid := fnExactTreeJoin.card
end Go.Proofs.YtciabhncmdpeeaaDoor
