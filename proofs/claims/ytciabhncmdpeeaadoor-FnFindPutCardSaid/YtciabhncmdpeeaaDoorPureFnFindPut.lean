/- The law FnFindPut tells true, plainly, at every input. No condition. -/
import Derived.Test.YtciabhncmdpeeaaDoorQFnFindPutx6
namespace Go.Proofs.YtciabhncmdpeeaaDoor.PureFnFindPut
open Go Go.RowKit Go.Proofs.YtciabhncmdpeeaaDoor.QFnFindPut Go.Proofs.YtciabhncmdpeeaaDoorW.PrintWords Go.Proofs.YtciabhncmdpeeaaDoorW.PrintLast
theorem w64 {x : Int} (h : -9223372036854775808 ≤ x ∧ x ≤ 9223372036854775807) : wrap64 x = x := by unfold wrap64; omega
theorem ev_now {α : Type} {g : Nat → Option α} {r : α} (h : ∀ k, g (k + 1) = some r) : Ev g r :=
 ⟨1, fun k hk => by obtain ⟨m, rfl⟩ : ∃ m, k = m + 1 := ⟨k - 1, by omega⟩; exact h m⟩
theorem ev_const {α : Type} {g : Nat → Option α} {r : α} (h : ∀ k, g k = some r) : Ev g r := ⟨0, fun k _ => h k⟩
theorem rdI (xs : List S54) (i : Nat) (h : i < xs.length) : rd_T54 xs (i : Int) = xs[i] := by unfold rd_T54; simp [List.getD, h]
/-! the specification's validity is the program's -/
theorem cv_rd (xs : List S54) (i : Nat) : QBase.rd_T54 (xs.map cv) (i : Int) = cv (rd_T54 xs (i : Int)) := by
 unfold QBase.rd_T54 rd_T54
 simp only [Int.toNat_natCast, List.getD, List.getElem?_map]
 cases xs[i]? <;> rfl
theorem pieceOk_is (x : S54) : spec_l2PieceOk.f x.f0.f0 x.f0.f1 x.f0.f2 = some (decide (goodP (cv x))) := by
 have no : ¬ goodP (cv x) → some false = some (decide (goodP (cv x))) := fun h => congrArg some (decide_eq_false h).symm
 unfold spec_l2PieceOk.f
 by_cases c1 : x.f0.f1 < 1
 ·rw [if_pos c1]; exact no (fun h => by unfold goodP cv at h; simp only at h; omega)
 rw [if_neg c1]
 by_cases c2 : x.f0.f1 > 8192
 ·rw [if_pos c2]; exact no (fun h => by unfold goodP cv at h; simp only at h; omega)
 rw [if_neg c2]
 by_cases c3 : x.f0.f0 < 0
 ·rw [if_pos c3]; exact no (fun h => by unfold goodP cv at h; simp only at h; omega)
 rw [if_neg c3]
 by_cases c4 : x.f0.f0 > 220000
 ·rw [if_pos c4]; exact no (fun h => by unfold goodP cv at h; simp only at h; omega)
 rw [if_neg c4, w64 (by omega)]
 by_cases c5 : x.f0.f0 + x.f0.f1 ≤ 220000
 ·rw [if_pos c5]
  by_cases c6 : x.f0.f2 ≥ 0
  ·rw [if_pos c6]; exact congrArg some (decide_eq_decide.2 (by unfold goodP cv; simp only; omega))
  ·rw [if_neg c6]; exact no (fun h => by unfold goodP cv at h; simp only at h; omega)
 ·rw [if_neg c5]; exact no (fun h => by unfold goodP cv at h; simp only at h; omega)
theorem total_loop (xs : List S54) (hn : xs.length ≤ 8192) (hg : AllGood (xs.map cv)) (d : Nat) : ∀ i : Nat, i + d = xs.length →
  Ev (fun k => spec_l2Total.l0 k (sumL ((xs.take i).map cv)) xs (xs.length : Int) (i : Int)) (sumL (xs.map cv)) := by
 induction d with
 | zero =>
  intro i hi
  obtain rfl : i = xs.length := by omega
  refine ev_now fun k => ?_
  simp only [spec_l2Total.l0]
  rw [if_neg (by omega), List.take_length]
 | succ d ih =>
  intro i hi
  have hlt : i < xs.length := by omega
  have hb := sumL_bound ((xs.take i).map cv) (fun y hy => hg y (by
   obtain ⟨z, hz, rfl⟩ := List.mem_map.1 hy
   exact List.mem_map.2 ⟨z, List.mem_of_mem_take hz, rfl⟩))
  have hx := hg (cv xs[i]) (List.mem_map.2 ⟨xs[i], List.getElem_mem hlt, rfl⟩)
  unfold goodP at hx
  simp only [List.length_map, List.length_take] at hb
  have e : sumL ((xs.take (i + 1)).map cv) = sumL ((xs.take i).map cv) + xs[i].f0.f1 := by
   rw [List.take_succ_eq_append_getElem hlt, List.map_append, sumL_app]; simp [sumL, cv]
  refine Ev.step (f := fun k => spec_l2Total.l0 k (sumL ((xs.take (i + 1)).map cv)) xs (xs.length : Int) ((i + 1 : Nat) : Int)) (fun k => ?_) (ih (i + 1) (by omega))
  simp only [spec_l2Total.l0]
  simp only [cv] at hx
  rw [if_pos (by omega), if_pos (by omega), if_pos (by omega), rdI xs i hlt, w64 (by omega), w64 (by omega), e]; rfl
theorem total_ev (xs : List S54) (hn : xs.length ≤ 8192) (hg : AllGood (xs.map cv)) : Ev (fun k => spec_l2Total.f k xs) (sumL (xs.map cv)) := by
 unfold spec_l2Total.f
 exact total_loop xs hn hg xs.length 0 (by omega)
def shapeV (n : Nat) (ys : List It) (level : Int) : Int := match rootedV n ys level with | some t => (TP.hgt t : Int) | none => -1
theorem seg_cons (xs : List S54) (lo hi : Nat) (h : lo < hi) (hh : hi ≤ xs.length) : ((xs.map cv).take hi).drop lo = cv (rd_T54 xs (lo : Int)) :: ((xs.map cv).take hi).drop (lo + 1) := by
 rw [rd_drop _ lo (by rw [List.length_take, List.length_map]; omega)]
 congr 1
 rw [← cv_rd]
 unfold QBase.rd_T54
 simp only [Int.toNat_natCast, List.getD, List.getElem?_take]
 rw [if_pos h]
theorem shapeV_le (n : Nat) (ys : List It) (level : Int) : -1 ≤ shapeV n ys level ∧ shapeV n ys level ≤ ys.length := by
 unfold shapeV
 cases h : rootedV n ys level with
 | none => simp only; omega
 | some t =>
  have := rootedV_cnt _ _ _ _ h
  have := TP.hgt_le t
  simp only; omega
def shR (xs : List S54) (n lo hi : Nat) (level : Int) : Option Int → Int
 | none => -1
 | some root => if root < 0 then -1 else
     if shapeV n (((xs.map cv).take (lo + root.toNat)).drop lo) (level + 1) < 0 then -1 else if shapeV n (((xs.map cv).take hi).drop (lo + root.toNat + 1)) (level + 1) < 0 then -1
     else if shapeV n (((xs.map cv).take (lo + root.toNat)).drop lo) (level + 1) ≤ shapeV n (((xs.map cv).take hi).drop (lo + root.toNat + 1)) (level + 1) + 1 ∧ shapeV n (((xs.map cv).take hi).drop (lo + root.toNat + 1)) (level + 1) ≤ shapeV n (((xs.map cv).take (lo + root.toNat)).drop lo) (level + 1) + 1
      then (if shapeV n (((xs.map cv).take hi).drop (lo + root.toNat + 1)) (level + 1) > shapeV n (((xs.map cv).take (lo + root.toNat)).drop lo) (level + 1) then shapeV n (((xs.map cv).take hi).drop (lo + root.toNat + 1)) (level + 1) + 1 else shapeV n (((xs.map cv).take (lo + root.toNat)).drop lo) (level + 1) + 1) else -1
theorem shape_ev (xs : List S54) (hx : xs.length ≤ 8192) (n : Nat) : ∀ (lo hi : Nat) (level : Int), lo ≤ hi → hi ≤ xs.length → hi - lo < n → 0 ≤ level → level ≤ 1000 →
  Ev (fun k => spec_l2Shape.f k xs (lo : Int) (hi : Int) level) (shapeV n (((xs.map cv).take hi).drop lo) level) := by
 induction n with
 | zero => intro lo hi level h1 h2 h3; omega
 | succ n ih =>
  intro lo hi level h1 h2 h3 l0 l1
  have hlen : ((((xs.map cv).take hi).drop lo)).length = hi - lo := by rw [List.length_drop, List.length_take, List.length_map]; omega
  by_cases c0 : hi ≤ lo
  ·refine ev_now fun k => ?_
   simp only [spec_l2Shape.f]
   rw [if_pos (by omega)]
   unfold shapeV
   have e : rootedV (n + 1) (((xs.map cv).take hi).drop lo) level = some .nil := by simp only [rootedV]; rw [if_pos (by omega)]
   rw [e]; rfl
  by_cases c1 : 40 < level
  ·refine ev_now fun k => ?_
   simp only [spec_l2Shape.f]
   rw [if_neg (by omega), if_pos c1]
   unfold shapeV
   have e : rootedV (n + 1) (((xs.map cv).take hi).drop lo) level = none := by simp only [rootedV]; rw [if_neg (by omega), if_pos c1]
   rw [e]
  refine Ev.step (fun k => by simp only [spec_l2Shape.f]; rw [if_neg (by omega), if_neg c1]) ?_
  have hV : shapeV (n + 1) (((xs.map cv).take hi).drop lo) level = shR xs n lo hi level (scanL level (((xs.map cv).take hi).drop lo) 0 (-1)) := by
   have e0 : ∀ o, rootedV (n + 1) (((xs.map cv).take hi).drop lo) level = o → shapeV (n + 1) (((xs.map cv).take hi).drop lo) level = match o with | some t => (TP.hgt t : Int) | none => -1 := by
    intro o h; unfold shapeV; rw [h]
   rw [e0 _ (by simp only [rootedV]; rw [if_neg (by omega), if_neg c1])]
   cases hs : scanL level (((xs.map cv).take hi).drop lo) 0 (-1) with
   | none => rfl
   | some root =>
    simp only [shR]
    by_cases hr : root < 0
    ·rw [if_pos hr, if_pos hr]
    ·rw [if_neg hr, if_neg hr]
     have hle := (scanL_le level _ 0 (-1) (by omega) (by omega) root hs).2
     rw [hlen] at hle
     have e1 : (((xs.map cv).take hi).drop lo).take root.toNat = ((xs.map cv).take (lo + root.toNat)).drop lo := by
      rw [List.take_drop, List.take_take]; congr 2; omega
     have e2 : (((xs.map cv).take hi).drop lo).drop (root.toNat + 1) = ((xs.map cv).take hi).drop (lo + root.toNat + 1) := by
      rw [List.drop_drop]; congr 1
     rw [e1, e2]
     unfold shapeV
     cases hl : rootedV n (((xs.map cv).take (lo + root.toNat)).drop lo) (level + 1) with
     | none => simp
     | some l =>
      cases hr2 : rootedV n (((xs.map cv).take hi).drop (lo + root.toNat + 1)) (level + 1) with
      | none => simp
      | some r =>
       simp only
       have k1 : ¬ ((TP.hgt l : Int) < 0) := by omega
       have k2 : ¬ ((TP.hgt r : Int) < 0) := by omega
       rw [if_neg k1, if_neg k2]
       by_cases hb : TP.hgt l ≤ TP.hgt r + 1 ∧ TP.hgt r ≤ TP.hgt l + 1
       ·have hb' : (TP.hgt l : Int) ≤ TP.hgt r + 1 ∧ (TP.hgt r : Int) ≤ TP.hgt l + 1 := by omega
        rw [if_pos hb, if_pos hb']
        simp only [TP.hgt]
        split <;> omega
       ·have hb' : ¬ ((TP.hgt l : Int) ≤ TP.hgt r + 1 ∧ (TP.hgt r : Int) ≤ TP.hgt l + 1) := by omega
        rw [if_neg hb, if_neg hb']
  rw [hV]
  generalize hR : scanL level (((xs.map cv).take hi).drop lo) 0 (-1) = R
  have hbound : ∀ root, R = some root → root < ((hi - lo : Nat) : Int) ∧ -1 ≤ root := by
   intro root h
   rw [h] at hR
   have := scanL_le level _ 0 (-1) (by omega) (by omega) root hR
   rw [hlen] at this; omega
  have main : ∀ (d i : Nat) (rel : Int), i + d = hi → lo ≤ i → -1 ≤ rel → rel < ((i - lo : Nat) : Int) → scanL level (((xs.map cv).take hi).drop i) (i - lo) rel = R →
    Ev (fun k => spec_l2Shape.l0 k xs (lo : Int) (hi : Int) level (if rel < 0 then -1 else (lo : Int) + rel) (i : Int)) (shR xs n lo hi level R) := by
   intro d
   induction d with
   | zero =>
    intro i rel hi' hlo hr0 hr1 hsc
    obtain rfl : i = hi := by omega
    have e : ((xs.map cv).take i).drop i = [] := List.drop_eq_nil_of_le (by rw [List.length_take]; omega)
    rw [e] at hsc
    simp only [scanL] at hsc
    subst hsc
    simp only [shR]
    by_cases hneg : rel < 0
    ·rw [if_pos hneg, if_pos hneg]
     refine ev_now fun k => ?_
     simp only [spec_l2Shape.l0]
     rw [if_neg (by omega), if_pos (by omega)]
    ·rw [if_neg hneg]
     obtain ⟨ρ, rfl⟩ : ∃ ρ : Nat, rel = ρ := ⟨rel.toNat, by omega⟩
     simp only [Int.toNat_natCast]
     refine Ev.step (fun k => by simp only [spec_l2Shape.l0]; rw [if_neg (by omega), if_neg (by omega)]) ?_
     have hl := ih lo (lo + ρ) (level + 1) (by omega) (by omega) (by omega) (by omega) (by omega)
     have hr := ih (lo + ρ + 1) i (level + 1) (by omega) (by omega) (by omega) (by omega) (by omega)
     have bl := shapeV_le n (((xs.map cv).take (lo + ρ)).drop lo) (level + 1)
     have br := shapeV_le n (((xs.map cv).take i).drop (lo + ρ + 1)) (level + 1)
     simp only [List.length_drop, List.length_take, List.length_map] at bl br
     generalize shapeV n (((xs.map cv).take (lo + ρ)).drop lo) (level + 1) = a at hl bl
     generalize shapeV n (((xs.map cv).take i).drop (lo + ρ + 1)) (level + 1) = b at hr br
     refine Ev.congr (f := fun k => (spec_l2Shape.f k xs (lo : Int) ((lo + ρ : Nat) : Int) (level + 1)).bind fun t108 => (if t108 < 0 then (some (-1)) else ((spec_l2Shape.f k xs ((lo + ρ + 1 : Nat) : Int) (i : Int) (level + 1)).bind fun t109 => (if t109 < 0 then (spec_l2Shape.j1 k t108 t109 true) else (if (wrap64 (t108 - t109)) > 1 then (spec_l2Shape.j1 k t108 t109 true) else (spec_l2Shape.j1 k t108 t109 (decide ((wrap64 (t109 - t108)) > 1)))))))) (fun k => by
      rw [w64 (x := level + 1) (by omega), w64 (x := (lo : Int) + (ρ : Int) + 1) (by omega)]; rfl) ?_
     refine Ev.bind hl ?_
     by_cases ca : a < 0
     ·rw [if_pos ca]; exact ev_const fun k => if_pos ca
     ·rw [if_neg ca]
      refine Ev.congr (fun k => if_neg ca) ?_
      refine Ev.bind hr ?_
      have J : ∀ t, Ev (fun k => spec_l2Shape.j1 k a b t) (if t = true then -1 else if b > a then b + 1 else a + 1) := by
       intro t
       refine ev_now fun k => ?_
       simp only [spec_l2Shape.j1]
       rw [w64 (by omega), w64 (by omega)]
       split
       ·rfl
       ·split <;> rfl
      by_cases cb : b < 0
      ·rw [if_pos cb]
       have := J true
       rw [if_pos rfl] at this
       exact Ev.congr (fun k => if_pos cb) this
      ·rw [if_neg cb]
       refine Ev.congr (fun k => if_neg cb) ?_
       by_cases cd : a - b > 1
       ·have nb : ¬ (a ≤ b + 1 ∧ b ≤ a + 1) := by omega
        rw [if_neg nb]
        have := J true
        rw [if_pos rfl] at this
        exact Ev.congr (fun k => if_pos (by rw [w64 (by omega)]; exact cd)) this
       ·refine Ev.congr (fun k => by rw [if_neg (by rw [w64 (by omega)]; exact cd), w64 (x := b - a) (by omega)]) ?_
        by_cases ce : b - a > 1
        ·have nb : ¬ (a ≤ b + 1 ∧ b ≤ a + 1) := by omega
         rw [if_neg nb]
         have := J (decide (b - a > 1))
         rw [if_pos (decide_eq_true ce)] at this
         exact this
        ·have nb : a ≤ b + 1 ∧ b ≤ a + 1 := by omega
         rw [if_pos nb]
         have := J (decide (b - a > 1))
         rw [if_neg (by rw [decide_eq_false ce]; simp)] at this
         exact this
   | succ d ihd =>
    intro i rel hi' hlo hr0 hr1 hsc
    have hlt : i < hi := by omega
    rw [seg_cons xs i hi hlt h2] at hsc
    simp only [scanL] at hsc
    have hx1 : (cv (rd_T54 xs (i : Int))).f1 = (rd_T54 xs (i : Int)).f1 := rfl
    rw [hx1] at hsc
    generalize hy : (rd_T54 xs (i : Int)).f1 = y at hsc
    by_cases d1 : y < level
    ·rw [if_pos (.inl d1)] at hsc
     subst hsc
     simp only [shR]
     refine ev_now fun k => ?_
     simp only [spec_l2Shape.l0, hy]
     rw [if_pos (by omega), if_pos (by omega), if_pos (by omega), if_pos d1]
    ·by_cases d2 : y = level
     ·by_cases d3 : 0 ≤ rel
      ·rw [if_pos (.inr ⟨d2, d3⟩)] at hsc
       subst hsc
       simp only [shR]
       refine ev_now fun k => ?_
       simp only [spec_l2Shape.l0, hy]
       rw [if_pos (by omega), if_pos (by omega), if_pos (by omega), if_neg d1, if_pos d2, if_pos (by rw [if_neg (by omega)]; omega)]
      ·rw [if_neg (by omega), if_pos d2] at hsc
       have h := ihd (i + 1) (((i - lo : Nat) : Int)) (by omega) (by omega) (by omega) (by omega) (by rw [← hsc]; congr 1; omega)
       refine Ev.step (fun k => ?_) h
       simp only [spec_l2Shape.l0, hy]
       rw [if_pos (by omega), if_pos (by omega), if_pos (by omega), if_neg d1, if_pos d2, if_neg (by rw [if_pos (by omega)]; omega), w64 (by omega), if_neg (by omega)]
       congr 1
       omega
     ·rw [if_neg (by omega), if_neg d2] at hsc
      have h := ihd (i + 1) rel (by omega) (by omega) (by omega) (by omega) (by rw [← hsc]; congr 1; omega)
      refine Ev.step (fun k => ?_) h
      simp only [spec_l2Shape.l0, hy]
      rw [if_pos (by omega), if_pos (by omega), if_pos (by omega), if_neg d1, if_neg d2, w64 (by omega)]
      rfl
  have := main (hi - lo) lo (-1) (by omega) (by omega) (by omega) (by omega) (by rw [Nat.sub_self]; exact hR)
  rw [if_pos (by omega)] at this
  exact this
theorem valid_loop (xs : List S54) (hn : xs.length ≤ 8192) (d : Nat) : ∀ i : Nat, i + d = xs.length → AllGood ((xs.take i).map cv) →
  Ev (fun k => spec_L2Valid.l0 k xs (xs.length : Int) (i : Int) xs) (decide ((grownV (xs.map cv)).isSome = true)) := by
 induction d with
 | zero =>
  intro i hi hg
  obtain rfl : i = xs.length := by omega
  rw [List.take_length] at hg
  refine Ev.step (fun k => by simp only [spec_L2Valid.l0]; rw [if_neg (by omega)]) ?_
  refine Ev.bind (total_ev xs hn hg) ?_
  unfold grownV
  rw [List.length_map]
  by_cases cs : sumL (xs.map cv) ≤ 8192
  ·rw [if_pos ⟨hn, hg, cs⟩]
   refine Ev.congr (fun k => if_pos cs) ?_
   have hsh := shape_ev xs hn (xs.length + 1) 0 xs.length 0 (by omega) (by omega) (by omega) (by omega) (by omega)
   rw [List.drop_zero, List.take_of_length_le (by rw [List.length_map]; omega)] at hsh
   refine Ev.bind hsh ?_
   refine ev_const fun _ => ?_
   unfold shapeV
   cases rootedV (xs.length + 1) (xs.map cv) 0 with
   | none => rfl
   | some t => simp
  ·rw [if_neg (fun h => cs h.2.2)]
   exact ev_const fun k => by rw [if_neg cs]; rfl
 | succ d ih =>
  intro i hi hg
  have hlt : i < xs.length := by omega
  refine Ev.step (fun k => by simp only [spec_L2Valid.l0]; rw [if_pos (by omega), if_pos (by omega), if_pos (by omega), pieceOk_is, Option.bind_some, w64 (by omega)]) ?_
  have ex : rd_T54 xs (i : Int) = xs[i] := rdI xs i hlt
  rw [ex]
  by_cases gd : goodP (cv xs[i])
  ·refine Ev.congr (fun k => if_pos (decide_eq_true gd)) ?_
   exact ih (i + 1) (by omega) (fun y hy => by
    rw [List.take_succ_eq_append_getElem hlt, List.map_append] at hy
    rcases List.mem_append.1 hy with hy | hy
    ·exact hg y hy
    ·simp only [List.map_cons, List.map_nil, List.mem_singleton] at hy
     rw [hy]; exact gd)
  ·refine ev_const fun k => ?_
   rw [if_neg (by rw [decide_eq_false gd]; simp)]
   unfold grownV
   rw [if_neg (fun h => gd (h.2.1 (cv xs[i]) (List.mem_map.2 ⟨xs[i], List.getElem_mem hlt, rfl⟩)))]
   rfl
theorem valid_ev (xs : List S54) : Ev (fun k => spec_L2Valid.f k xs) (decide ((grownV (xs.map cv)).isSome = true)) := by
 unfold spec_L2Valid.f
 by_cases c : (xs.length : Int) > 8192
 ·refine ev_const fun k => ?_
  rw [if_pos c]
  unfold grownV
  rw [if_neg (fun h => by have := h.1; rw [List.length_map] at this; omega)]
  rfl
 ·refine Ev.congr (fun k => if_neg c) ?_
  exact valid_loop xs (by omega) xs.length 0 (by omega) (fun y hy => by simp at hy)
/-! the specification's lists of levels are trees told in order -/
def gx (x : S54) : Pc × Int := itv (cv x)
def mkS (x : Pc × Int) : S54 := ⟨⟨x.1.off, x.1.len, x.1.brk⟩, x.2⟩
theorem mkS_gx (x : S54) : mkS (gx x) = x := rfl
theorem gx_mkS (x : Pc × Int) : gx (mkS x) = x := rfl
theorem of_gx {xs : List S54} {L : List (Pc × Int)} (h : xs.map gx = L) : xs = L.map mkS := by
 subst h; rw [List.map_map]; simp [Function.comp_def, mkS_gx]
theorem map_gx_mkS (L : List (Pc × Int)) : (L.map mkS).map gx = L := by rw [List.map_map]; simp [Function.comp_def, gx_mkS]
def pS (p : Pc) : S50 := ⟨p.off, p.len, p.brk⟩
/-! draws: what a draw ends in, as far as a law needs it -/
def EvP {α : Type} (g : Nat → Option α) (P : α → Prop) : Prop := ∃ r, Ev g r ∧ P r
theorem EvP.bind {α β : Type} {g : Nat → Option α} {f : Nat → α → Option β} {P : α → Prop} {Q : β → Prop} (h : EvP g P) (k : ∀ a, P a → EvP (fun n => f n a) Q) : EvP (fun n => (g n).bind (f n)) Q := by
 obtain ⟨r, h1, h2⟩ := h
 obtain ⟨s, h3, h4⟩ := k r h2
 exact ⟨s, Ev.bind h1 h3, h4⟩
theorem EvP.step {α : Type} {g f : Nat → Option α} {P : α → Prop} (h : ∀ k, g (k + 1) = f k) (k : EvP f P) : EvP g P := by
 obtain ⟨r, h1, h2⟩ := k
 exact ⟨r, Ev.step h h1, h2⟩
theorem EvP.congr {α : Type} {g f : Nat → Option α} {P : α → Prop} (h : ∀ k, g k = f k) (k : EvP f P) : EvP g P := by
 obtain ⟨r, h1, h2⟩ := k
 exact ⟨r, Ev.congr h h1, h2⟩
theorem EvP.now {α : Type} {g : Nat → Option α} {P : α → Prop} {r : α} (h : ∀ k, g (k + 1) = some r) (hp : P r) : EvP g P := ⟨r, ev_now h, hp⟩
theorem EvP.const {α : Type} {g : Nat → Option α} {P : α → Prop} {r : α} (h : ∀ k, g k = some r) (hp : P r) : EvP g P := ⟨r, ev_const h, hp⟩
theorem EvP.of {α : Type} {g : Nat → Option α} {P : α → Prop} {r : α} (h : Ev g r) (hp : P r) : EvP g P := ⟨r, h, hp⟩
theorem EvP.mono {α : Type} {g : Nat → Option α} {P Q : α → Prop} (h : EvP g P) (k : ∀ r, P r → Q r) : EvP g Q := by
 obtain ⟨r, h1, h2⟩ := h
 exact ⟨r, h1, k r h2⟩
def Src (b : List Int) (i : Int) : Prop := 0 ≤ i ∧ i ≤ (b.length : Int) ∧ b.length ≤ 1048576
theorem u64_in (x : Int) : 0 ≤ IntKind.u64.wrap x ∧ IntKind.u64.wrap x < 18446744073709551616 := by rw [IntKind.wrap_u64]; omega
theorem n_p (b : List Int) (i x a : Int) (hs : Src b i) (ha : 1 ≤ a ∧ a ≤ 1099511627776) : EvP (fun _ => spec_l1Src_n.f b i x a) (fun r => 0 ≤ r.1 ∧ r.1 < a ∧ Src b r.2.1) := by
 obtain ⟨h0, h1, h2⟩ := hs
 unfold spec_l1Src_n.f
 have val : ∀ y : Int, 1 < a → 0 ≤ wrap64 (Int.tmod (IntKind.u64.wrap y / 8589934592) (IntKind.u64.wrap a)) ∧ wrap64 (Int.tmod (IntKind.u64.wrap y / 8589934592) (IntKind.u64.wrap a)) < a := by
  intro y h
  have hy := u64_in y
  have e : IntKind.u64.wrap a = a := by rw [IntKind.wrap_u64]; omega
  rw [e, Int.tmod_eq_emod_of_nonneg (by omega)]
  have := Int.emod_nonneg (IntKind.u64.wrap y / 8589934592) (show a ≠ 0 by omega)
  have := Int.emod_lt_of_pos (IntKind.u64.wrap y / 8589934592) (show 0 < a by omega)
  rw [w64 (by omega)]; omega
 have nz : 1 < a → ¬ IntKind.u64.wrap a = 0 := fun h => by rw [IntKind.wrap_u64]; omega
 by_cases c1 : i < (b.length : Int)
 ·by_cases c2 : a ≤ 1
  ·exact EvP.const (fun k => by rw [if_pos c1, if_pos h0, if_pos c2]) ⟨by simp, by simp; omega, by simp only [Src]; rw [w64 (by omega)]; omega⟩
  ·exact EvP.const (fun k => by rw [if_pos c1, if_pos h0, if_neg c2, if_neg (nz (by omega))]) ⟨(val _ (by omega)).1, (val _ (by omega)).2, by simp only [Src]; rw [w64 (by omega)]; omega⟩
 ·by_cases c2 : a ≤ 1
  ·exact EvP.const (fun k => by rw [if_neg c1, if_pos c2]) ⟨by simp, by simp; omega, h0, h1, h2⟩
  ·exact EvP.const (fun k => by rw [if_neg c1, if_neg c2, if_neg (nz (by omega))]) ⟨(val _ (by omega)).1, (val _ (by omega)).2, h0, h1, h2⟩
theorem one_p (b : List Int) (i x a : Int) (hs : Src b i) (ha : 1 ≤ a ∧ a ≤ 1099511627776) : EvP (fun _ => spec_l1Src_one.f b i x a) (fun r => Src b r.2.1) := by
 unfold spec_l1Src_one.f
 refine EvP.bind (n_p b i x a hs ha) fun r hr => ?_
 exact EvP.const (fun _ => rfl) hr.2.2
def PieceP (b : List Int) (r : Int × Int × Int × Int × Int) : Prop := GoodPc ⟨r.1, r.2.1, r.2.2.1⟩ ∧ r.2.1 ≤ 9 ∧ Src b r.2.2.2.1
theorem piece_p (b : List Int) (i x : Int) (hs : Src b i) : EvP (fun _ => spec_L2DrawPiece.f b i x) (PieceP b) := by
 unfold spec_L2DrawPiece.f
 refine EvP.bind (n_p b i x 500 hs (by omega)) fun r1 h1 => ?_
 refine EvP.bind (n_p b _ _ 9 h1.2.2 (by omega)) fun r2 h2 => ?_
 rw [w64 (x := 1 + r2.1) (by omega), w64 (x := 1 + r2.1 + 1) (by omega), w64 (x := 220000 - (1 + r2.1)) (by omega)]
 refine EvP.bind (n_p b _ _ _ h2.2.2 (by omega)) fun r3 h3 => ?_
 refine EvP.bind (one_p b _ _ 2 h3.2.2 (by omega)) fun r4 h4 => ?_
 by_cases c : r4.1 = true
 ·refine EvP.congr (fun k => if_pos c) ?_
  refine EvP.bind (one_p b _ _ 20 h4 (by omega)) fun r5 h5 => ?_
  by_cases c2 : r5.1 = true
  ·exact EvP.const (fun k => if_pos c2) ⟨by unfold GoodPc; simp only; omega, by simp only; omega, h5⟩
  ·exact EvP.const (fun k => if_neg c2) ⟨by unfold GoodPc; simp only; omega, by simp only; omega, h5⟩
 ·refine EvP.congr (fun k => if_neg c) ?_
  refine EvP.bind (one_p b _ _ 20 h4 (by omega)) fun r5 h5 => ?_
  by_cases c2 : r5.1 = true
  ·exact EvP.const (fun k => if_pos c2) ⟨by unfold GoodPc; simp only; omega, by simp only; omega, h5⟩
  ·exact EvP.const (fun k => if_neg c2) ⟨by unfold GoodPc; simp only; omega, by simp only; omega, h5⟩
def LevP (b : List Int) (h lv : Int) (r : List Int × Int × Int) : Prop := (∃ s : TP.Tr Unit, TP.Avl s ∧ (TP.hgt s : Int) = max h 0 ∧ r.1 = (TP.flat s lv).map Prod.snd) ∧ Src b r.2.1
theorem LevP.len {b : List Int} {h lv : Int} {r : List Int × Int × Int} (hp : LevP b h lv r) (hh : h ≤ 7) : r.1.length ≤ 127 := by
 obtain ⟨⟨s, h1, h2, h3⟩, -⟩ := hp
 rw [h3, List.length_map, TP.flat_length]
 have h4 := cnt_pow s
 have h5 : 2 ^ TP.hgt s ≤ 2 ^ 7 := Nat.pow_le_pow_right (by omega) (by omega)
 have e7 : (2 : Nat) ^ 7 = 128 := by decide
 omega
theorem lev_step (b : List Int) (h hl hr lv lean : Int) (hh : 0 < h ∧ h ≤ 7) (a1 : hl ≤ h - 1) (a2 : hr ≤ h - 1) (a3 : h - 2 ≤ hl) (a4 : h - 2 ≤ hr) (a5 : hl = h - 1 ∨ hr = h - 1)
  (ihl : ∀ i x, Src b i → EvP (fun k => spec_l2Levels.f k b i x hl (lv + 1) lean) (LevP b hl (lv + 1)))
  (ihr : ∀ i x, Src b i → EvP (fun k => spec_l2Levels.f k b i x hr (lv + 1) lean) (LevP b hr (lv + 1))) (i x : Int) (hs : Src b i) :
  EvP (fun k => (spec_l2Levels.f k b i x hl (lv + 1) lean).bind fun bt => (if bt.1.length < 17592186044416 then ((some (bt.1 ++ [lv] : List Int)).bind fun y => ((spec_l2Levels.f k b bt.2.1 bt.2.2 hr (lv + 1) lean).bind fun bt2 => (if y.length + bt2.1.length < 17592186044416 then (some ((y ++ bt2.1), bt2.2.1, bt2.2.2)) else (none)))) else (none))) (LevP b h lv) := by
 refine EvP.bind (ihl i x hs) fun r h1 => ?_
 have l1 := h1.len (by omega)
 obtain ⟨⟨s, s1, s2, s3⟩, hs1⟩ := h1
 refine EvP.congr (fun k => if_pos (by omega)) ?_
 refine EvP.bind (EvP.const (fun _ => rfl) (P := (· = r.1 ++ [lv])) rfl) fun y hy => ?_
 subst hy
 refine EvP.bind (ihr _ _ hs1) fun q h2 => ?_
 have l2 := h2.len (by omega)
 obtain ⟨⟨t, t1, t2, t3⟩, hs2⟩ := h2
 refine EvP.const (fun k => if_pos (by rw [List.length_append]; simp only [List.length_cons, List.length_nil]; omega)) ⟨⟨.node s () t, ⟨s1, t1, by omega, by omega⟩, ?_, ?_⟩, hs2⟩
 ·simp only [TP.hgt]; omega
 ·simp only [TP.flat]
  rw [s3, t3, List.map_append, List.map_cons, List.append_assoc]; rfl
theorem levels_p (b : List Int) (lean : Int) (n : Nat) : ∀ (h lv i x : Int), n ≤ 7 → h ≤ n → -1 ≤ h → 0 ≤ lv → lv + n ≤ 100 → Src b i → EvP (fun k => spec_l2Levels.f k b i x h lv lean) (LevP b h lv) := by
 induction n with
 | zero =>
  intro h lv i x _ h1 h2 _ _ hs
  refine EvP.now (fun k => by simp only [spec_l2Levels.f]; rw [if_pos (by omega)]) ⟨⟨.nil, trivial, ?_, ?_⟩, hs⟩
  ·simp only [TP.hgt]; omega
  ·simp [TP.flat]
 | succ n ih =>
  intro h lv i x h0 h1 h2 h3 h4 hs
  by_cases c : h ≤ 0
  ·refine EvP.now (fun k => by simp only [spec_l2Levels.f]; rw [if_pos c]) ⟨⟨.nil, trivial, ?_, ?_⟩, hs⟩
   ·simp only [TP.hgt]; omega
   ·simp [TP.flat]
  have step1 : ∀ i x, Src b i → EvP (fun k => spec_l2Levels.f k b i x (h - 1) (lv + 1) lean) (LevP b (h - 1) (lv + 1)) := fun i x hs => ih _ _ i x (by omega) (by omega) (by omega) (by omega) (by omega) hs
  have step2 : ∀ i x, Src b i → EvP (fun k => spec_l2Levels.f k b i x (h - 1 - 1) (lv + 1) lean) (LevP b (h - 1 - 1) (lv + 1)) := fun i x hs => ih _ _ i x (by omega) (by omega) (by omega) (by omega) (by omega) hs
  refine EvP.step (fun k => by simp only [spec_l2Levels.f]; rw [if_neg c, w64 (x := h - 1) (by omega), w64 (x := h - 1 - 1) (by omega), w64 (x := lv + 1) (by omega)]) ?_
  refine EvP.bind (n_p b i x 4 hs (by omega)) fun r hr => ?_
  by_cases c1 : r.1 < lean
  ·refine EvP.congr (fun k => if_pos c1) ?_
   refine EvP.bind (one_p b _ _ 2 hr.2.2 (by omega)) fun q hq => ?_
   by_cases c2 : q.1 = true
   ·refine EvP.congr (fun k => if_pos c2) ?_
    exact lev_step b h _ _ lv lean (by omega) (by omega) (by omega) (by omega) (by omega) (by omega) step2 step1 _ _ hq
   ·refine EvP.congr (fun k => if_neg c2) ?_
    exact lev_step b h _ _ lv lean (by omega) (by omega) (by omega) (by omega) (by omega) (by omega) step1 step2 _ _ hq
  ·refine EvP.congr (fun k => if_neg c1) ?_
   exact lev_step b h _ _ lv lean (by omega) (by omega) (by omega) (by omega) (by omega) (by omega) step1 step1 _ _ hr.2.2
def ItemsP (_b : List Int) (L : List Int) (n : Nat) (acc : List S54) : Prop := ∃ ps : List Pc, ps.length = n ∧ (∀ p ∈ ps, GoodPc p) ∧ (ps.map Pc.len).sum ≤ 9 * (n : Int) ∧ acc = (ps.zip (L.take n)).map mkS
theorem items_p (b : List Int) (L : List Int) (hL : L.length ≤ 127) (d : Nat) : ∀ (j : Nat) (i x : Int) (acc : List S54), j + d = L.length → Src b i → ItemsP b L j acc →
  EvP (fun k => spec_l2DrawTree.l0 k L (L.length : Int) (j : Int) b i x acc) (fun r => ItemsP b L L.length r.1 ∧ Src b r.2.1) := by
 induction d with
 | zero =>
  intro j i x acc hj hs ha
  obtain rfl : j = L.length := by omega
  exact EvP.now (fun k => by simp only [spec_l2DrawTree.l0]; rw [if_neg (by omega)]) ⟨ha, hs⟩
 | succ d ih =>
  intro j i x acc hj hs ha
  have hlt : j < L.length := by omega
  obtain ⟨ps, p1, p2, p3, p4⟩ := ha
  have hacc : acc.length ≤ 127 := by rw [p4, List.length_map, List.length_zip, p1, List.length_take]; omega
  refine EvP.step (fun k => by simp only [spec_l2DrawTree.l0]; rw [if_pos (by omega), if_pos (by omega), if_pos (by omega)]) ?_
  refine EvP.bind (piece_p b i x hs) fun r hr => ?_
  obtain ⟨g1, g2, g3⟩ := hr
  refine EvP.congr (fun k => by rw [if_pos (by omega), w64 (by omega), show (j : Int) + 1 = ((j + 1 : Nat) : Int) by omega]) ?_
  refine ih (j + 1) _ _ _ (by omega) g3 ⟨ps ++ [⟨r.1, r.2.1, r.2.2.1⟩], ?_, ?_, ?_, ?_⟩
  ·rw [List.length_append, p1]; rfl
  ·intro p hp
   rcases List.mem_append.1 hp with h | h
   ·exact p2 p h
   ·simp only [List.mem_singleton] at h; subst h; exact g1
  ·rw [List.map_append, List.sum_append]
   simp only [List.map_cons, List.map_nil, List.sum_cons, List.sum_nil]
   omega
  ·rw [List.take_succ_eq_append_getElem hlt, List.zip_append (by rw [p1, List.length_take]; omega), List.map_append, ← p4]
   have : rd L (j : Int) = L[j] := by unfold rd; simp [List.getD, hlt]
   rw [this]; rfl
structure GT (t : Tree) : Prop where
 avl : TP.Avl t
 good : ∀ p ∈ TP.toL t, GoodPc p
 sum : ((TP.toL t).map Pc.len).sum ≤ 8192
theorem tall_p (d : Nat) : ∀ (a n : Int), n ≤ d → 0 ≤ n → 2 ≤ a → a + n ≤ 2000000 → EvP (fun k => spec_l2Tall.l0 k a n) (fun r => 2 ≤ r ∧ r ≤ 7) := by
 induction d with
 | zero =>
  intro a n h1 h2 h3 h4
  by_cases c : a > 7
  ·exact EvP.now (fun k => by simp only [spec_l2Tall.l0]; rw [if_neg (by omega), if_pos c]) (by omega)
  ·exact EvP.now (fun k => by simp only [spec_l2Tall.l0]; rw [if_neg (by omega), if_neg c]) (by omega)
 | succ d ih =>
  intro a n h1 h2 h3 h4
  by_cases c2 : n > 2
  ·have e : Int.tdiv n 2 = n / 2 := Int.tdiv_eq_ediv_of_nonneg (by omega)
   refine EvP.step (fun k => by simp only [spec_l2Tall.l0]; rw [if_pos c2, w64 (x := a + 1) (by omega), e, w64 (x := n / 2) (by omega)]) ?_
   exact ih _ _ (by omega) (by omega) (by omega) (by omega)
  by_cases c : a > 7
  ·exact EvP.now (fun k => by simp only [spec_l2Tall.l0]; rw [if_neg (by omega), if_pos c]) (by omega)
  ·exact EvP.now (fun k => by simp only [spec_l2Tall.l0]; rw [if_neg (by omega), if_neg c]) (by omega)
def TreeP (b : List Int) (r : List S54 × Int × Int) : Prop := (∃ t : Tree, TP.Avl t ∧ (∀ p ∈ TP.toL t, GoodPc p) ∧ ((TP.toL t).map Pc.len).sum ≤ 1143 ∧ r.1 = (TP.flat t 0).map mkS) ∧ Src b r.2.1
theorem tree_p (b : List Int) (i x : Int) (code : List Int) (hc : code.length ≤ 1048576) (hs : Src b i) : EvP (fun k => spec_L2DrawTree.f k b i x code) (TreeP b) := by
 unfold spec_L2DrawTree.f spec_l2Tall.f
 refine EvP.bind (tall_p code.length 2 (code.length : Int) (by omega) (by omega) (by omega) (by omega)) fun hg hh => ?_
 refine EvP.bind (P := TreeP b) ?_ fun r hr => ?_
 ·unfold spec_l2DrawTree.f
  refine EvP.bind (n_p b i x _ hs (by rw [w64 (by omega)]; omega)) fun r1 h1 => ?_
  rw [w64 (by omega)] at h1
  refine EvP.bind (n_p b _ _ 5 h1.2.2 (by omega)) fun r2 h2 => ?_
  refine EvP.bind (levels_p b r2.1 7 r1.1 0 _ _ (by omega) (by omega) (by omega) (by omega) (by omega) h2.2.2) fun r3 h3 => ?_
  have hl := h3.len (by omega)
  obtain ⟨⟨s, s1, s2, s3⟩, hs3⟩ := h3
  refine (items_p b r3.1 hl r3.1.length 0 _ _ [] (by omega) hs3 ⟨[], rfl, by simp, by simp, by simp⟩).mono fun q hq => ?_
  obtain ⟨⟨ps, p1, p2, p3, p4⟩, hs4⟩ := hq
  have hn : TP.cnt s = r3.1.length := by rw [s3, List.length_map, TP.flat_length]
  obtain ⟨t, t1, t2, t3⟩ := fill s 0 ps (by omega) s1
  rw [← s3] at t1
  rw [List.take_length, ← t1] at p4
  have e : TP.toL t = ps := by
   rw [← TP.flat_toL t 0, t1]
   exact List.map_fst_zip (by omega)
  exact ⟨⟨t, t2, by rw [e]; exact p2, by rw [e]; omega, p4⟩, hs4⟩
 ·obtain ⟨⟨t, t1, t2, t3, t4⟩, hs1⟩ := hr
  have hl := len_sum _ t2
  have hlen : r.1.length = TP.cnt t := by rw [t4, List.length_map, TP.flat_length]
  rw [TP.toL_length] at hl
  by_cases c : (r.1.length : Int) = 0
  ·refine EvP.congr (fun k => if_pos c) ?_
   refine EvP.bind (piece_p b _ _ hs1) fun q hq => ?_
   obtain ⟨g1, g2, g3⟩ := hq
   have e : r.1 = [] := List.length_eq_zero_iff.1 (by omega)
   refine EvP.const (fun k => if_pos (by omega)) ⟨⟨.node .nil ⟨q.1, q.2.1, q.2.2.1⟩ .nil, ⟨trivial, trivial, by omega, by omega⟩, ?_, ?_, ?_⟩, g3⟩
   ·intro p hp
    simp only [TP.toL, List.nil_append, List.mem_singleton] at hp
    subst hp; exact g1
   ·simp only [TP.toL, List.nil_append, List.map_cons, List.map_nil, List.sum_cons, List.sum_nil]; omega
   ·rw [e]; rfl
  ·exact EvP.const (fun k => if_neg c) ⟨⟨t, t1, t2, t3, t4⟩, hs1⟩
/-! the laws' own helpers -/
theorem rdP (xs : List S50) (i : Nat) (h : i < xs.length) : rd_T50 xs (i : Int) = xs[i] := by unfold rd_T50; simp [List.getD, h]
theorem pieces_loop (xs : List S54) (hn : xs.length ≤ 1000000) (d : Nat) : ∀ i : Nat, i + d = xs.length →
  Ev (fun k => laws_pieces.l0 k ((xs.take i).map (·.f0)) xs (xs.length : Int) (i : Int)) (xs.map (·.f0)) := by
 induction d with
 | zero =>
  intro i hi
  obtain rfl : i = xs.length := by omega
  refine ev_now fun k => ?_
  simp only [laws_pieces.l0]
  rw [if_neg (by omega), List.take_length]
 | succ d ih =>
  intro i hi
  have hlt : i < xs.length := by omega
  refine Ev.step (f := fun k => laws_pieces.l0 k ((xs.take (i + 1)).map (·.f0)) xs (xs.length : Int) ((i + 1 : Nat) : Int)) (fun k => ?_) (ih (i + 1) (by omega))
  simp only [laws_pieces.l0]
  rw [if_pos (by omega), if_pos (by omega), if_pos (by omega), if_pos (by rw [List.length_map, List.length_take]; omega), w64 (by omega), rdI xs i hlt, List.take_succ_eq_append_getElem hlt, List.map_append]
  rfl
theorem pieces_ev (t : Tree) (hn : TP.cnt t ≤ 1000000) : Ev (fun k => laws_pieces.f k ((TP.flat t 0).map mkS)) ((TP.toL t).map pS) := by
 unfold laws_pieces.f
 have h := pieces_loop ((TP.flat t 0).map mkS) (by rw [List.length_map, TP.flat_length]; exact hn) _ 0 (Nat.zero_add _)
 have e : ((TP.flat t 0).map mkS).map (·.f0) = (TP.toL t).map pS := by
  rw [← TP.flat_toL t 0, List.map_map, List.map_map]; rfl
 rw [e] at h
 exact Ev.congr (fun k => by simp) h
theorem smPieces_loop (xs : List S50) (hn : xs.length ≤ 9000000) (d : Nat) : ∀ i : Nat, i + d = xs.length →
  Ev (fun k => laws_smPieces.l0 k xs xs (xs.length : Int) (i : Int)) true := by
 induction d with
 | zero => intro i hi; refine ev_now fun k => ?_; simp only [laws_smPieces.l0]; rw [if_neg (by omega)]
 | succ d ih =>
  intro i hi
  refine Ev.step (f := fun k => laws_smPieces.l0 k xs xs (xs.length : Int) ((i + 1 : Nat) : Int)) (fun k => ?_) (ih (i + 1) (by omega))
  simp only [laws_smPieces.l0]
  rw [if_pos (by omega), if_pos (by omega), if_pos (by omega), if_pos (by omega), if_neg (by simp), w64 (by omega)]; rfl
theorem smPieces_ev (xs : List S50) (hn : xs.length ≤ 9000000) : Ev (fun k => laws_smPieces.f k xs xs) true := by
 unfold laws_smPieces.f
 exact Ev.congr (fun k => if_pos rfl) (smPieces_loop xs hn xs.length 0 (by omega))
theorem toIt_cb (L : List (Pc × Int)) : (L.map toIt).map cb = L.map mkS := by rw [List.map_map]; rfl
theorem mkS_cv (L : List (Pc × Int)) : (L.map mkS).map cv = L.map toIt := by rw [List.map_map]; rfl
theorem GT.cnt {t : Tree} (h : GT t) : TP.cnt t ≤ 8192 := by
 have := len_sum _ h.good
 rw [TP.toL_length] at this
 have := h.sum
 omega
theorem GT.grown {t : Tree} (h : GT t) : grownV (((TP.flat t 0).map mkS).map cv) = some t := by rw [mkS_cv]; exact grownV_good t h.avl h.good h.sum
theorem GT.valid {t : Tree} (h : GT t) : Ev (fun k => spec_L2Valid.f k ((TP.flat t 0).map mkS)) true := by
 have := valid_ev ((TP.flat t 0).map mkS)
 rw [h.grown] at this
 simpa using this
theorem items_len (t : Tree) : ((TP.flat t 0).map mkS).length = TP.cnt t := by rw [List.length_map, TP.flat_length]
theorem sum_le_of_pos (xs : List Pc) (h : ∀ p ∈ xs, GoodPc p) : 0 ≤ (xs.map Pc.len).sum := by have := len_sum xs h; omega
theorem take_sum (xs : List Pc) (k : Nat) (_h : ∀ p ∈ xs, GoodPc p) : ((xs.take k).map Pc.len).sum + ((xs.drop k).map Pc.len).sum = (xs.map Pc.len).sum := by
 rw [← List.sum_append, ← List.map_append, List.take_append_drop]

theorem N_p (b : List Int) (i x a : Int) (hs : Src b i) (ha : 1 ≤ a ∧ a ≤ 1099511627776) : EvP (fun _ => spec_l1Src_N.f b i x a) (fun r => 0 ≤ r.1 ∧ r.1 < a ∧ Src b r.2.1) := by
 unfold spec_l1Src_N.f
 exact EvP.bind (n_p b i x a hs ha) fun r hr => EvP.const (fun _ => rfl) hr
theorem GT.insert {t : Tree} (h : GT t) (p : Pc) (hp : GoodPc p) (k : Nat) (hk : k ≤ TP.cnt t) (hs : ((TP.toL t).map Pc.len).sum + p.len ≤ 8192) :
  GT (TP.insert p t k) ∧ TP.toL (TP.insert p t k) = (TP.toL t).take k ++ p :: (TP.toL t).drop k ∧ TP.cnt (TP.insert p t k) = TP.cnt t + 1 ∧ ((TP.toL (TP.insert p t k)).map Pc.len).sum = ((TP.toL t).map Pc.len).sum + p.len := by
 obtain ⟨h1, -, -, h2, h3⟩ := TP.insert_ok p t k h.avl hk
 have ts := take_sum (TP.toL t) k h.good
 have e : ((TP.toL (TP.insert p t k)).map Pc.len).sum = ((TP.toL t).map Pc.len).sum + p.len := by
  rw [h2, List.map_append, List.sum_append, List.map_cons, List.sum_cons]; omega
 refine ⟨⟨h1, fun q hq => ?_, by rw [e]; exact hs⟩, h2, h3, e⟩
 rw [h2] at hq
 rcases List.mem_append.1 hq with c | c
 ·exact h.good q (List.mem_of_mem_take c)
 ·rcases List.mem_cons.1 c with c | c
  ·rw [c]; exact hp
  ·exact h.good q (List.mem_of_mem_drop c)
theorem insert_is {t : Tree} (h : GT t) (p : Pc) (hp : GoodPc p) (k : Nat) (hk : k ≤ TP.cnt t) (hs : ((TP.toL t).map Pc.len).sum + p.len ≤ 8192) : impl_TreeInsert.f ((TP.flat t 0).map mkS) (k : Int) p.off p.len p.brk = some ((TP.flat (TP.insert p t k) 0).map mkS, 0) := by
 have hc := h.cnt
 unfold impl_TreeInsert.f
 rw [if_pos (by rw [items_len]; omega)]
 unfold treeInsertV
 rw [h.grown]
 simp only
 rw [if_pos (show goodP ⟨⟨p.off, p.len, p.brk⟩, 0⟩ from hp), if_pos (by rw [List.length_map, items_len]; omega), if_pos (by rw [(rl_toL t).1]; exact hs)]
 simp only [Int.toNat_natCast]
 rw [toIt_cb]
theorem GT.remove {t : Tree} (h : GT t) (k : Nat) (hk : k < TP.cnt t) :
  GT (TP.remove t k) ∧ TP.toL (TP.remove t k) = (TP.toL t).take k ++ (TP.toL t).drop (k + 1) ∧ ((TP.toL (TP.remove t k)).map Pc.len).sum ≤ ((TP.toL t).map Pc.len).sum := by
 obtain ⟨h1, -, -, h2, -⟩ := TP.remove_ok t k h.avl hk
 rw [List.eraseIdx_eq_take_drop_succ] at h2
 have ts := take_sum (TP.toL t) k h.good
 have hl : k < (TP.toL t).length := by rw [TP.toL_length]; exact hk
 have hg := h.good (TP.toL t)[k] (List.getElem_mem hl)
 have e : ((TP.toL (TP.remove t k)).map Pc.len).sum ≤ ((TP.toL t).map Pc.len).sum := by
  rw [List.drop_eq_getElem_cons hl, List.map_cons, List.sum_cons] at ts
  rw [h2, List.map_append, List.sum_append]
  have := hg.2.2.1
  omega
 refine ⟨⟨h1, fun q hq => ?_, by have := h.sum; omega⟩, h2, e⟩
 rw [h2] at hq
 rcases List.mem_append.1 hq with c | c
 ·exact h.good q (List.mem_of_mem_take c)
 ·exact h.good q (List.mem_of_mem_drop c)
theorem remove_is {t : Tree} (h : GT t) (k : Nat) (hk : k < TP.cnt t) : impl_TreeDelete.f ((TP.flat t 0).map mkS) (k : Int) = some ((TP.flat (TP.remove t k) 0).map mkS, 0) := by
 have hc := h.cnt
 unfold impl_TreeDelete.f
 rw [if_pos (by rw [items_len]; omega)]
 unfold treeDeleteV
 rw [h.grown]
 simp only
 rw [if_pos (by rw [List.length_map, items_len]; omega)]
 simp only [Int.toNat_natCast]
 rw [toIt_cb]
def locate : List (Pc × Int) → Int → Int → Int × Int × Int
 | [], _, rank => (rank, 0, 0)
 | (v, lv) :: r, off, rank => if off < v.len then (rank, off, lv + 1) else locate r (off - v.len) (rank + 1)
def sumP : List (Pc × Int) → Int | [] => 0 | x :: r => x.1.len + sumP r
theorem sumP_nonneg (xs : List (Pc × Int)) (h : ∀ x ∈ xs, 0 ≤ x.1.len) : 0 ≤ sumP xs := by
 induction xs with
 | nil => simp [sumP]
 | cons x xs ih => have := h x (by simp); have := ih (fun y hy => h y (by simp [hy])); simp only [sumP]; omega
theorem locate_app (xs ys : List (Pc × Int)) (h : ∀ x ∈ xs, 0 ≤ x.1.len) : ∀ off rank : Int, 0 ≤ off →
  (off < sumP xs → locate (xs ++ ys) off rank = locate xs off rank) ∧ (¬ off < sumP xs → locate (xs ++ ys) off rank = locate ys (off - sumP xs) (rank + xs.length)) := by
 induction xs with
 | nil => intro off rank h0; exact ⟨fun h => by simp only [sumP] at h; omega, fun _ => by simp [sumP]⟩
 | cons x xs ih =>
  intro off rank h0
  obtain ⟨v, lv⟩ := x
  have hn := sumP_nonneg xs (fun y hy => h y (by simp [hy]))
  have hv : sumP ((v, lv) :: xs) = v.len + sumP xs := rfl
  simp only [List.cons_append, locate]
  by_cases c : off < v.len
  ·exact ⟨fun _ => by rw [if_pos c, if_pos c], fun k => by omega⟩
  ·obtain ⟨i1, i2⟩ := ih (fun y hy => h y (by simp [hy])) (off - v.len) (rank + 1) (by omega)
   refine ⟨fun k => by rw [if_neg c, if_neg c]; exact i1 (by omega), fun k => ?_⟩
   rw [if_neg c, i2 (by omega)]
   simp only [List.length_cons]
   congr 1 <;> omega
theorem sumP_flat (t : Tree) : ∀ k, sumP (TP.flat t k) = rl t := by
 have app : ∀ xs ys, sumP (xs ++ ys) = sumP xs + sumP ys := by
  intro xs ys; induction xs with
  | nil => simp [sumP]
  | cons x xs ih => simp only [List.cons_append, sumP, ih]; omega
 induction t with
 | nil => intro k; rfl
 | node l v r ihl ihr => intro k; simp only [TP.flat, app, sumP, ihl, ihr, rl]; omega
theorem flat_len (t : Tree) (k : Int) (h : AllP t) : ∀ x ∈ TP.flat t k, 0 ≤ x.1.len := by
 intro x hx
 have : x.1 ∈ TP.toL t := by rw [← TP.flat_toL t k]; exact List.mem_map.2 ⟨x, hx, rfl⟩
 have := h _ this; omega
theorem findV_locate (t : Tree) : ∀ (off rank seen : Int), AllP t → 0 ≤ off → off < rl t → findV t off rank seen = locate (TP.flat t (seen - 1)) off rank := by
 induction t with
 | nil => intro off rank seen _ h0 h1; simp only [rl] at h1; omega
 | node l v r ihl ihr =>
  intro off rank seen hp h0 h1
  have hl : AllP l := fun x hx => hp x (by simp [TP.toL, hx])
  have hr : AllP r := fun x hx => hp x (by simp [TP.toL, hx])
  simp only [rl] at h1
  simp only [findV, TP.flat]
  obtain ⟨a1, a2⟩ := locate_app (TP.flat l (seen - 1 + 1)) ((v, seen - 1) :: TP.flat r (seen - 1 + 1)) (flat_len l _ hl) off rank h0
  rw [sumP_flat] at a1 a2
  by_cases c1 : off < rl l
  ·rw [if_pos c1, a1 c1, ihl _ _ _ hl h0 c1]
   congr 2; omega
  ·rw [if_neg c1, a2 c1]
   simp only [locate, TP.flat_length]
   by_cases c2 : off < rl l + v.len
   ·rw [if_pos c2, if_pos (by omega)]
    simp
   ·rw [if_neg c2, if_neg (by omega), ihr _ _ _ hr (by omega) (by omega)]
    congr 1
    ·congr 1; omega
    ·omega
def locateB : List (Pc × Int) → Int → Int → Int → Int × Int × Int
 | [], _, rank, bf => (rank, 0, bf)
 | (v, _) :: r, line, rank, bf => if line ≤ v.brk then (rank, line, bf) else locateB r (line - v.brk) (rank + 1) (bf + v.len)
def sumB : List (Pc × Int) → Int | [] => 0 | x :: r => x.1.brk + sumB r
theorem sumB_nonneg (xs : List (Pc × Int)) (h : ∀ x ∈ xs, 0 ≤ x.1.brk) : 0 ≤ sumB xs := by
 induction xs with
 | nil => simp [sumB]
 | cons x xs ih => have := h x (by simp); have := ih (fun y hy => h y (by simp [hy])); simp only [sumB]; omega
theorem locateB_app (xs ys : List (Pc × Int)) (h : ∀ x ∈ xs, 0 ≤ x.1.brk) : ∀ line rank bf : Int, 1 ≤ line →
  (line ≤ sumB xs → locateB (xs ++ ys) line rank bf = locateB xs line rank bf) ∧ (¬ line ≤ sumB xs → locateB (xs ++ ys) line rank bf = locateB ys (line - sumB xs) (rank + xs.length) (bf + sumP xs)) := by
 induction xs with
 | nil => intro line rank bf h0; exact ⟨fun h => by simp only [sumB] at h; omega, fun _ => by simp [sumB, sumP]⟩
 | cons x xs ih =>
  intro line rank bf h0
  obtain ⟨v, lv⟩ := x
  have hn := sumB_nonneg xs (fun y hy => h y (by simp [hy]))
  have hv : sumB ((v, lv) :: xs) = v.brk + sumB xs := rfl
  have hv' : sumP ((v, lv) :: xs) = v.len + sumP xs := rfl
  simp only [List.cons_append, locateB]
  by_cases c : line ≤ v.brk
  ·exact ⟨fun _ => by rw [if_pos c, if_pos c], fun k => by omega⟩
  ·obtain ⟨i1, i2⟩ := ih (fun y hy => h y (by simp [hy])) (line - v.brk) (rank + 1) (bf + v.len) (by omega)
   refine ⟨fun k => by rw [if_neg c, if_neg c]; exact i1 (by omega), fun k => ?_⟩
   rw [if_neg c, i2 (by omega)]
   simp only [List.length_cons]
   congr 1 <;> omega
theorem sumPB_flat (t : Tree) : ∀ k, sumP (TP.flat t k) = rl t ∧ sumB (TP.flat t k) = kl t := by
 have app : ∀ xs ys, sumP (xs ++ ys) = sumP xs + sumP ys ∧ sumB (xs ++ ys) = sumB xs + sumB ys := by
  intro xs ys; induction xs with
  | nil => simp [sumP, sumB]
  | cons x xs ih => simp only [List.cons_append, sumP, sumB, ih.1, ih.2]; omega
 induction t with
 | nil => intro k; exact ⟨rfl, rfl⟩
 | node l v r ihl ihr => intro k; simp only [TP.flat, (app _ _).1, (app _ _).2, sumP, sumB, (ihl _).1, (ihl _).2, (ihr _).1, (ihr _).2, rl, kl]; omega
theorem flat_brk (t : Tree) (k : Int) (h : AllP t) : ∀ x ∈ TP.flat t k, 0 ≤ x.1.brk := by
 intro x hx
 have : x.1 ∈ TP.toL t := by rw [← TP.flat_toL t k]; exact List.mem_map.2 ⟨x, hx, rfl⟩
 have := h _ this; omega
theorem findBV_locate (t : Tree) : ∀ (line rank bf k : Int), AllP t → 1 ≤ line → line ≤ kl t → findBV t line rank bf = locateB (TP.flat t k) line rank bf := by
 induction t with
 | nil => intro line rank bf k _ h0 h1; simp only [kl] at h1; omega
 | node l v r ihl ihr =>
  intro line rank bf k hp h0 h1
  have hl : AllP l := fun x hx => hp x (by simp [TP.toL, hx])
  have hr : AllP r := fun x hx => hp x (by simp [TP.toL, hx])
  simp only [kl] at h1
  simp only [findBV, TP.flat]
  obtain ⟨a1, a2⟩ := locateB_app (TP.flat l (k + 1)) ((v, k) :: TP.flat r (k + 1)) (flat_brk l _ hl) line rank bf h0
  rw [(sumPB_flat l _).2] at a1 a2
  rw [(sumPB_flat l _).1] at a2
  by_cases c1 : line ≤ kl l
  ·rw [if_pos c1, a1 c1, ihl _ _ _ (k + 1) hl h0 c1]
  ·rw [if_neg c1, a2 c1]
   simp only [locateB, TP.flat_length]
   by_cases c2 : line ≤ kl l + v.brk
   ·rw [if_pos c2, if_pos (by omega)]
   ·rw [if_neg c2, if_neg (by omega), ihr _ _ _ (k + 1) hr (by omega) (by omega)]
    congr 1
    omega
theorem cpTree_is (xs : List S54) (h : xs.length ≤ 1000000) : laws_cpTree.f xs = some xs := by
 unfold laws_cpTree.f
 simp only [Option.bind_some, List.nil_append]
 rw [if_pos (by simp only [List.length_nil]; omega)]
def lst (t : Tree) : List S50 := (TP.toL t).map pS
theorem lst_len (t : Tree) : (lst t).length = TP.cnt t := by unfold lst; rw [List.length_map, TP.toL_length]
def sl (ps : List Pc) : Int := (ps.map Pc.len).sum
def sb (ps : List Pc) : Int := (ps.map Pc.brk).sum
theorem sl_app (a b : List Pc) : sl (a ++ b) = sl a + sl b := by unfold sl; rw [List.map_append, List.sum_append]
theorem sb_app (a b : List Pc) : sb (a ++ b) = sb a + sb b := by unfold sb; rw [List.map_append, List.sum_append]
theorem sl_cons (p : Pc) (b : List Pc) : sl (p :: b) = p.len + sl b := by unfold sl; rw [List.map_cons, List.sum_cons]
theorem sb_cons (p : Pc) (b : List Pc) : sb (p :: b) = p.brk + sb b := by unfold sb; rw [List.map_cons, List.sum_cons]
theorem s_bd (ps : List Pc) (h : ∀ p ∈ ps, GoodPc p) : 0 ≤ sb ps ∧ sb ps ≤ sl ps := by
 induction ps with
 | nil => simp [sb, sl]
 | cons p ps ih =>
  have h1 := h p (by simp)
  have h2 := ih (fun q hq => h q (by simp [hq]))
  rw [sl_cons, sb_cons]
  unfold GoodPc at h1
  omega
theorem sumP_map (A : List (Pc × Int)) : sumP A = sl (A.map Prod.fst) := by
 induction A with
 | nil => rfl
 | cons x A ih => rw [List.map_cons, sl_cons, ← ih]; rfl
theorem sumB_map (A : List (Pc × Int)) : sumB A = sb (A.map Prod.fst) := by
 induction A with
 | nil => rfl
 | cons x A ih => rw [List.map_cons, sb_cons, ← ih]; rfl
theorem GT.allP {t : Tree} (h : GT t) : AllP t := fun v hv => by have := h.good v hv; unfold GoodPc at this; omega
theorem find_at {t : Tree} (h : GT t) {A B : List (Pc × Int)} {x : Pc × Int} (e : TP.flat t 0 = A ++ x :: B) (j : Int) (h0 : 0 ≤ j) (h1 : j < x.1.len) :
  impl_TreeFind.f ((TP.flat t 0).map mkS) (sumP A + j) = some ((A.length : Int), j, x.2 + 1, 0) := by
 have hc := h.cnt
 have hl := flat_len t 0 h.allP
 have hA : ∀ y ∈ A, 0 ≤ y.1.len := fun y hy => hl y (by rw [e]; simp [hy])
 have hB : ∀ y ∈ B, 0 ≤ y.1.len := fun y hy => hl y (by rw [e]; simp [hy])
 have nA := sumP_nonneg A hA
 have nB := sumP_nonneg B hB
 have hr : rl t = sumP A + (x.1.len + sumP B) := by
  rw [← sumP_flat t 0, e, sumP_map, List.map_append, sl_app, ← sumP_map, ← sumP_map]; rfl
 unfold impl_TreeFind.f
 rw [if_pos (by rw [items_len]; omega)]
 unfold treeFindV
 rw [h.grown]
 simp only
 rw [if_pos (by omega), findV_locate t _ 0 1 h.allP (by omega) (by omega)]
 rw [show (1 : Int) - 1 = 0 from rfl, e, (locate_app A (x :: B) hA (sumP A + j) 0 (by omega)).2 (by omega)]
 obtain ⟨v, lv⟩ := x
 simp only [locate]
 rw [if_pos (by simp only at h1; omega), show (0 : Int) + (A.length : Int) = (A.length : Int) by omega, show sumP A + j - sumP A = j by omega]
theorem findB_at {t : Tree} (h : GT t) {A B : List (Pc × Int)} {x : Pc × Int} (e : TP.flat t 0 = A ++ x :: B) (j : Int) (h0 : 1 ≤ j) (h1 : j ≤ x.1.brk) :
  impl_TreeFindLine.f ((TP.flat t 0).map mkS) (sumB A + j) = some ((A.length : Int), j, sumP A, 0) := by
 have hc := h.cnt
 have hl := flat_brk t 0 h.allP
 have hA : ∀ y ∈ A, 0 ≤ y.1.brk := fun y hy => hl y (by rw [e]; simp [hy])
 have hB : ∀ y ∈ B, 0 ≤ y.1.brk := fun y hy => hl y (by rw [e]; simp [hy])
 have nA := sumB_nonneg A hA
 have nB := sumB_nonneg B hB
 have hr : kl t = sumB A + (x.1.brk + sumB B) := by
  rw [← (sumPB_flat t 0).2, e, sumB_map, List.map_append, sb_app, ← sumB_map, ← sumB_map]; rfl
 unfold impl_TreeFindLine.f
 rw [if_pos (by rw [items_len]; omega)]
 unfold treeFindLineV
 rw [h.grown]
 simp only
 rw [if_pos (by omega), findBV_locate t _ 0 0 0 h.allP (by omega) (by omega)]
 rw [e, (locateB_app A (x :: B) hA (sumB A + j) 0 0 (by omega)).2 (by omega)]
 obtain ⟨v, lv⟩ := x
 simp only [locateB]
 rw [if_pos (by simp only at h1; omega), show (0 : Int) + (A.length : Int) = (A.length : Int) by omega, show sumB A + j - sumB A = j by omega, show (0 : Int) + sumP A = sumP A by omega]
theorem l2_ev (t u : Tree) (hu : GT u) (a : Nat) (p : Pc) (hp : GoodPc p) (A B : List (Pc × Int)) (lv : Int) (e : TP.flat u 0 = A ++ (p, lv) :: B) (hA : A.length = a) (ha : a < TP.cnt u) (bd : 0 ≤ sumB A ∧ sumB A ≤ 8192)
  (hr : TP.toL (TP.remove u a) = TP.toL t) (d : Nat) : ∀ j : Nat, 1 ≤ j → p.brk + 1 - (j : Int) = d →
  Ev (fun k => laws_FnFindPut.l2 k (lst t) (a : Int) (sumP A) (sumB A) (j : Int) p.off p.len p.brk ((TP.flat u 0).map mkS)) true := by
 have hc := hu.cnt
 unfold GoodPc at hp
 induction d with
 | zero =>
  intro j h1 h2
  obtain ⟨g1, -, -⟩ := hu.remove a ha
  have hcr := g1.cnt
  have P := pieces_ev (TP.remove u a) (by omega)
  rw [hr] at P
  have ht : TP.cnt t ≤ 8192 := by rw [← TP.toL_length, ← hr, TP.toL_length]; exact hcr
  refine Ev.step (fun k => by simp only [laws_FnFindPut.l2]; rw [if_neg (by omega)]) ?_
  refine Ev.bind (ev_const fun _ => remove_is hu a ha) ?_
  refine Ev.congr (fun k => if_pos rfl) ?_
  refine Ev.bind g1.valid ?_
  refine Ev.congr (fun k => if_pos rfl) ?_
  refine Ev.bind P ?_
  exact Ev.bind (smPieces_ev (lst t) (by rw [lst_len]; omega)) (ev_const fun _ => rfl)
 | succ d ih =>
  intro j h1 h2
  have hf := findB_at hu e (j : Int) (by omega) (by simp only; omega)
  refine Ev.step (fun k => by simp only [laws_FnFindPut.l2]; rw [if_pos (by omega), w64 (x := sumB A + (j : Int)) (by omega), w64 (x := (j : Int) + 1) (by omega)]) ?_
  refine Ev.bind (ev_const fun _ => cpTree_is _ (by rw [items_len]; omega)) ?_
  refine Ev.bind (ev_const fun _ => hf) ?_
  refine Ev.congr (fun k => by rw [if_pos rfl, if_pos (by simp only; omega), if_pos rfl, if_pos rfl, show (j : Int) + 1 = ((j + 1 : Nat) : Int) by omega]) ?_
  exact ih (j + 1) (by omega) (by omega)
theorem l1_ev (t u : Tree) (hu : GT u) (a : Nat) (p : Pc) (hp : GoodPc p) (A B : List (Pc × Int)) (lv : Int) (e : TP.flat u 0 = A ++ (p, lv) :: B) (hA : A.length = a) (ha : a < TP.cnt u) (bd : 0 ≤ sumB A ∧ sumB A ≤ 8192) (bd2 : 0 ≤ sumP A ∧ sumP A ≤ 8192) (hlv : 0 ≤ lv ∧ lv ≤ 100000)
  (hr : TP.toL (TP.remove u a) = TP.toL t) (d : Nat) : ∀ j : Nat, p.len - (j : Int) = d →
  Ev (fun k => laws_FnFindPut.l1 k (lst t) (a : Int) (sumP A) (sumB A) (j : Int) p.off p.len p.brk ((TP.flat u 0).map mkS)) true := by
 have hc := hu.cnt
 have hp' := hp
 unfold GoodPc at hp'
 have hrd : rd_T54 ((TP.flat u 0).map mkS) (a : Int) = mkS (p, lv) := by
  have hlt : a < ((TP.flat u 0).map mkS).length := by rw [items_len]; exact ha
  rw [rdI _ a hlt]
  simp only [e, List.map_append, List.map_cons]
  rw [List.getElem_append_right (by rw [List.length_map]; omega)]
  simp [hA]
 induction d with
 | zero =>
  intro j h2
  refine Ev.step (fun k => by simp only [laws_FnFindPut.l1]; rw [if_neg (by omega)]) ?_
  exact l2_ev t u hu a p hp A B lv e hA ha bd hr p.brk.toNat 1 (by omega) (by omega)
 | succ d ih =>
  intro j h2
  have hf := find_at hu e (j : Int) (by omega) (by simp only; omega)
  refine Ev.step (fun k => by simp only [laws_FnFindPut.l1]; rw [if_pos (by omega), w64 (x := sumP A + (j : Int)) (by omega), w64 (x := (j : Int) + 1) (by omega)]) ?_
  refine Ev.bind (ev_const fun _ => cpTree_is _ (by rw [items_len]; omega)) ?_
  refine Ev.bind (ev_const fun _ => hf) ?_
  refine Ev.congr (fun k => by
   rw [if_pos rfl, if_pos (by simp only; omega), if_pos rfl, if_pos (by omega), if_pos (by rw [items_len]; omega), hrd, if_pos (by show lv + 1 = wrap64 (lv + 1); rw [w64 (by omega)]), show (j : Int) + 1 = ((j + 1 : Nat) : Int) by omega]) ?_
  exact ih (j + 1) (by omega)
theorem l0_ev (t u : Tree) (ht : GT t) (a : Nat) (ha : a ≤ TP.cnt t) (p : Pc) (d : Nat)
  (h : Ev (fun k => laws_FnFindPut.l1 k (lst t) (a : Int) (sl ((TP.toL t).take a)) (sb ((TP.toL t).take a)) 0 p.off p.len p.brk ((TP.flat u 0).map mkS)) true) : ∀ j : Nat, j + d = a →
  Ev (fun k => laws_FnFindPut.l0 k (lst t) (a : Int) (sl ((TP.toL t).take j)) (sb ((TP.toL t).take j)) (j : Int) p.off p.len p.brk ((TP.flat u 0).map mkS)) true := by
 have hc := ht.cnt
 induction d with
 | zero =>
  intro j h1
  obtain rfl : j = a := by omega
  exact Ev.step (fun k => by simp only [laws_FnFindPut.l0]; rw [if_neg (by omega)]) h
 | succ d ih =>
  intro j h1
  have hlt : j < (TP.toL t).length := by rw [TP.toL_length]; omega
  have e1 : sl ((TP.toL t).take (j + 1)) = sl ((TP.toL t).take j) + (TP.toL t)[j].len := by
   rw [List.take_succ_eq_append_getElem hlt, sl_app, sl_cons]; simp [sl]
  have e2 : sb ((TP.toL t).take (j + 1)) = sb ((TP.toL t).take j) + (TP.toL t)[j].brk := by
   rw [List.take_succ_eq_append_getElem hlt, sb_app, sb_cons]; simp [sb]
  have ts := take_sum (TP.toL t) (j + 1) ht.good
  have b1 := s_bd ((TP.toL t).take (j + 1)) (fun q hq => ht.good q (List.mem_of_mem_take hq))
  have b2 := sum_le_of_pos ((TP.toL t).drop (j + 1)) (fun q hq => ht.good q (List.mem_of_mem_drop hq))
  have hs := ht.sum
  have b3 : sl ((TP.toL t).take (j + 1)) ≤ 8192 := by unfold sl; omega
  have hrd : rd_T50 (lst t) (j : Int) = pS (TP.toL t)[j] := by
   rw [rdP _ j (by rw [lst_len, ← TP.toL_length]; exact hlt)]
   unfold lst; rw [List.getElem_map]
  refine Ev.step (fun k => by
   simp only [laws_FnFindPut.l0]
   rw [if_pos (by omega), if_pos (by omega), if_pos (by rw [lst_len, ← TP.toL_length]; omega), hrd]
   simp only [pS]
   rw [← e1, ← e2, w64 (by omega), w64 (by omega), w64 (by omega), show (j : Int) + 1 = ((j + 1 : Nat) : Int) by omega]) (ih (j + 1) (by omega))
theorem law (code : List Int) : ∃ k, laws_FnFindPut.f k code = some true := by
 refine Ev.rounds (g := fun k => laws_FnFindPut.f k code) ?_
 suffices h : EvP (fun k => laws_FnFindPut.f k code) (· = true) by obtain ⟨r, h1, h2⟩ := h; rw [← h2]; exact h1
 unfold laws_FnFindPut.f
 by_cases hc : (code.length : Int) > 1048576
 ·exact EvP.const (fun _ => if_pos hc) rfl
 refine EvP.congr (fun k => if_neg hc) ?_
 refine EvP.bind (P := fun r => r.1 = code ∧ r.2.1 = 0) (EvP.const (fun _ => rfl) ⟨rfl, rfl⟩) fun s hs => ?_
 obtain ⟨b, i, x⟩ := s
 obtain ⟨h1, h2⟩ := hs
 simp only at h1 h2
 subst h1
 subst h2
 refine EvP.bind (tree_p b 0 x b (by omega) ⟨by omega, by omega, by omega⟩) fun r hr => ?_
 obtain ⟨⟨t, t1, t2, t3, t4⟩, hs1⟩ := hr
 have g : GT t := ⟨t1, t2, by omega⟩
 have hcn := g.cnt
 rw [t4]
 refine EvP.bind (EvP.of (pieces_ev t (by omega)) (P := (· = lst t)) rfl) fun q hq => ?_
 subst hq
 refine EvP.bind (N_p b _ _ _ hs1 (by rw [lst_len, w64 (by omega)]; omega)) fun r1 hr1 => ?_
 rw [lst_len, w64 (by omega)] at hr1
 obtain ⟨r0, r1', r2⟩ := hr1
 obtain ⟨a, ha⟩ : ∃ a : Nat, r1.1 = a := ⟨r1.1.toNat, by omega⟩
 rw [ha] at r0 r1' ⊢
 refine EvP.bind (piece_p b _ _ r2) fun q hq => ?_
 obtain ⟨g1, g2, g3⟩ := hq
 have hln := g1.2.2.1
 obtain ⟨p, hp⟩ : ∃ p : Pc, p = ⟨q.1, q.2.1, q.2.2.1⟩ := ⟨_, rfl⟩
 rw [show q.1 = p.off by rw [hp], show q.2.1 = p.len by rw [hp], show q.2.2.1 = p.brk by rw [hp]]
 rw [← hp] at g1
 have hpl : 1 ≤ p.len := g1.2.2.1
 have g2' : p.len ≤ 9 := by rw [hp]; exact g2
 obtain ⟨u1, u2, u3, u4⟩ := g.insert p g1 a (by omega) (by omega)
 have hi := insert_is g p g1 a (by omega) (by omega)
 generalize TP.insert p t a = u at u1 u2 u3 u4 hi
 have huc := u1.cnt
 -- where the new piece stands
 have hfl : (TP.flat u 0).length = TP.cnt u := TP.flat_length u 0
 have hlt : a < (TP.flat u 0).length := by omega
 have e : TP.flat u 0 = (TP.flat u 0).take a ++ (TP.flat u 0)[a] :: (TP.flat u 0).drop (a + 1) := by rw [← List.drop_eq_getElem_cons hlt, List.take_append_drop]
 have hlv := TP.flat_lev u 0 (TP.flat u 0)[a] (List.getElem_mem hlt)
 have hh := TP.hgt_le u
 generalize hA : (TP.flat u 0).take a = A at e
 generalize (TP.flat u 0)[a] = y at e hlv
 generalize (TP.flat u 0).drop (a + 1) = B at e
 have hAl : A.length = a := by rw [← hA, List.length_take]; omega
 have hm : A.map Prod.fst ++ y.1 :: B.map Prod.fst = (TP.toL t).take a ++ p :: (TP.toL t).drop a := by
  rw [← u2, ← TP.flat_toL u 0, e, List.map_append, List.map_cons]
 obtain ⟨m1, m2⟩ := List.append_inj hm (by rw [List.length_map, hAl, List.length_take, TP.toL_length]; omega)
 obtain ⟨m3, m4⟩ := List.cons.inj m2
 obtain ⟨yv, lv⟩ := y
 simp only at m3 hlv
 subst m3
 have sA : sumP A = sl ((TP.toL t).take a) := by rw [sumP_map, m1]
 have sB : sumB A = sb ((TP.toL t).take a) := by rw [sumB_map, m1]
 have b1 := s_bd ((TP.toL t).take a) (fun q hq => g.good q (List.mem_of_mem_take hq))
 have ts := take_sum (TP.toL t) a g.good
 have b2 := sum_le_of_pos ((TP.toL t).drop a) (fun q hq => g.good q (List.mem_of_mem_drop hq))
 have b3 : sl ((TP.toL t).take a) ≤ 8192 := by unfold sl; omega
 obtain ⟨-, d2, -⟩ := u1.remove a (by omega)
 have hr : TP.toL (TP.remove u a) = TP.toL t := by
  have tl : ((TP.toL t).take a).length = a := by rw [List.length_take, TP.toL_length]; omega
  rw [d2, u2, List.take_left' tl, List.drop_append, List.drop_eq_nil_of_le (by omega), tl, Nat.add_sub_cancel_left, List.nil_append, List.drop_succ_cons, List.drop_zero, List.take_append_drop]
 have hrd : rd_T54 ((TP.flat u 0).map mkS) (a : Int) = mkS (yv, lv) := by
  rw [rdI _ a (by rw [items_len]; omega)]
  simp only [e, List.map_append, List.map_cons]
  rw [List.getElem_append_right (by rw [List.length_map]; omega)]
  simp [hAl]
 refine EvP.bind (EvP.const (fun _ => cpTree_is _ (by rw [items_len]; omega)) (P := (· = (TP.flat t 0).map mkS)) rfl) fun z hz => ?_
 subst hz
 refine EvP.bind (EvP.const (fun _ => hi) (P := (· = _)) rfl) fun z hz => ?_
 subst hz
 refine EvP.congr (fun k => by rw [if_pos rfl, if_pos (by rw [items_len, lst_len, w64 (by omega)]; omega), if_pos r0, if_pos (by rw [items_len]; omega), hrd]) ?_
 refine EvP.step (fun k => by simp only [laws_FnFindPut.j0]; rw [if_neg (by simp [mkS])]) ?_
 refine EvP.of (l0_ev t u g a (by omega) yv a ?_ 0 (by omega)) rfl
 have L1 := l1_ev t u u1 a yv g1 A B lv e hAl (by omega) (by omega) (by omega) (by omega) hr yv.len.toNat 0 (by omega)
 rw [sA, sB] at L1
 exact L1
end Go.Proofs.YtciabhncmdpeeaaDoor.PureFnFindPut
