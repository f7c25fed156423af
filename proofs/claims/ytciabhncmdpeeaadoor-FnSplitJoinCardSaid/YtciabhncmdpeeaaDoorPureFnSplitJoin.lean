/- The law FnSplitJoin tells true, plainly, at every input. No condition. -/
import Derived.Test.YtciabhncmdpeeaaDoorQFnSplitJoinx5
namespace Go.Proofs.YtciabhncmdpeeaaDoor.PureFnSplitJoin
open Go Go.RowKit Go.Proofs.YtciabhncmdpeeaaDoor.QFnSplitJoin Go.Proofs.YtciabhncmdpeeaaDoorW.PrintWords Go.Proofs.YtciabhncmdpeeaaDoorW.PrintLast
theorem w64 {x : Int} (h : -9223372036854775808 ≤ x ∧ x ≤ 9223372036854775807) : wrap64 x = x := by unfold wrap64; omega
theorem ev_now {α : Type} {g : Nat → Option α} {r : α} (h : ∀ k, g (k + 1) = some r) : Ev g r :=
 ⟨1, fun k hk => by obtain ⟨m, rfl⟩ : ∃ m, k = m + 1 := ⟨k - 1, by omega⟩; exact h m⟩
theorem ev_const {α : Type} {g : Nat → Option α} {r : α} (h : ∀ k, g k = some r) : Ev g r := ⟨0, fun k _ => h k⟩
theorem rdI (xs : List S54) (i : Nat) (h : i < xs.length) : rd_T54 xs (i : Int) = xs[i] := by unfold rd_T54; simp [List.getD, h]
/-! the specification's validity is the program's -/
theorem cv_rd (xs : List S54) (i : Nat) : QBase.rd_T54 (xs.map cv) (i : Int) = cv (rd_T54 xs (i : Int)) := by
 unfold QBase.rd_T54 rd_T54
 simp only [Int.toNat_natCast, List.getD, List.getElem?_map]
 cases xs[i]? <;> rfl
theorem pieceOk_is (x : S54) : spec_l2PieceOk.f x.f0.f0 x.f0.f1 x.f0.f2 = some (decide (goodP (cv x))) := by
 have no : ¬ goodP (cv x) → some false = some (decide (goodP (cv x))) := fun h => congrArg some (decide_eq_false h).symm
 unfold spec_l2PieceOk.f
 by_cases c1 : x.f0.f1 < 1
 ·rw [if_pos c1]; exact no (fun h => by unfold goodP cv at h; simp only at h; omega)
 rw [if_neg c1]
 by_cases c2 : x.f0.f1 > 8192
 ·rw [if_pos c2]; exact no (fun h => by unfold goodP cv at h; simp only at h; omega)
 rw [if_neg c2]
 by_cases c3 : x.f0.f0 < 0
 ·rw [if_pos c3]; exact no (fun h => by unfold goodP cv at h; simp only at h; omega)
 rw [if_neg c3]
 by_cases c4 : x.f0.f0 > 220000
 ·rw [if_pos c4]; exact no (fun h => by unfold goodP cv at h; simp only at h; omega)
 rw [if_neg c4, w64 (by omega)]
 by_cases c5 : x.f0.f0 + x.f0.f1 ≤ 220000
 ·rw [if_pos c5]
  by_cases c6 : x.f0.f2 ≥ 0
  ·rw [if_pos c6]; exact congrArg some (decide_eq_decide.2 (by unfold goodP cv; simp only; omega))
  ·rw [if_neg c6]; exact no (fun h => by unfold goodP cv at h; simp only at h; omega)
 ·rw [if_neg c5]; exact no (fun h => by unfold goodP cv at h; simp only at h; omega)
theorem total_loop (xs : List S54) (hn : xs.length ≤ 8192) (hg : AllGood (xs.map cv)) (d : Nat) : ∀ i : Nat, i + d = xs.length →
  Ev (fun k => spec_l2Total.l0 k (sumL ((xs.take i).map cv)) xs (xs.length : Int) (i : Int)) (sumL (xs.map cv)) := by
 induction d with
 | zero =>
  intro i hi
  obtain rfl : i = xs.length := by omega
  refine ev_now fun k => ?_
  simp only [spec_l2Total.l0]
  rw [if_neg (by omega), List.take_length]
 | succ d ih =>
  intro i hi
  have hlt : i < xs.length := by omega
  have hb := sumL_bound ((xs.take i).map cv) (fun y hy => hg y (by
   obtain ⟨z, hz, rfl⟩ := List.mem_map.1 hy
   exact List.mem_map.2 ⟨z, List.mem_of_mem_take hz, rfl⟩))
  have hx := hg (cv xs[i]) (List.mem_map.2 ⟨xs[i], List.getElem_mem hlt, rfl⟩)
  unfold goodP at hx
  simp only [List.length_map, List.length_take] at hb
  have e : sumL ((xs.take (i + 1)).map cv) = sumL ((xs.take i).map cv) + xs[i].f0.f1 := by
   rw [List.take_succ_eq_append_getElem hlt, List.map_append, sumL_app]; simp [sumL, cv]
  refine Ev.step (f := fun k => spec_l2Total.l0 k (sumL ((xs.take (i + 1)).map cv)) xs (xs.length : Int) ((i + 1 : Nat) : Int)) (fun k => ?_) (ih (i + 1) (by omega))
  simp only [spec_l2Total.l0]
  simp only [cv] at hx
  rw [if_pos (by omega), if_pos (by omega), if_pos (by omega), rdI xs i hlt, w64 (by omega), w64 (by omega), e]; rfl
theorem total_ev (xs : List S54) (hn : xs.length ≤ 8192) (hg : AllGood (xs.map cv)) : Ev (fun k => spec_l2Total.f k xs) (sumL (xs.map cv)) := by
 unfold spec_l2Total.f
 exact total_loop xs hn hg xs.length 0 (by omega)
def shapeV (n : Nat) (ys : List It) (level : Int) : Int := match rootedV n ys level with | some t => (TP.hgt t : Int) | none => -1
theorem seg_cons (xs : List S54) (lo hi : Nat) (h : lo < hi) (hh : hi ≤ xs.length) : ((xs.map cv).take hi).drop lo = cv (rd_T54 xs (lo : Int)) :: ((xs.map cv).take hi).drop (lo + 1) := by
 rw [rd_drop _ lo (by rw [List.length_take, List.length_map]; omega)]
 congr 1
 rw [← cv_rd]
 unfold QBase.rd_T54
 simp only [Int.toNat_natCast, List.getD, List.getElem?_take]
 rw [if_pos h]
theorem shapeV_le (n : Nat) (ys : List It) (level : Int) : -1 ≤ shapeV n ys level ∧ shapeV n ys level ≤ ys.length := by
 unfold shapeV
 cases h : rootedV n ys level with
 | none => simp only; omega
 | some t =>
  have := rootedV_cnt _ _ _ _ h
  have := TP.hgt_le t
  simp only; omega
def shR (xs : List S54) (n lo hi : Nat) (level : Int) : Option Int → Int
 | none => -1
 | some root => if root < 0 then -1 else
     if shapeV n (((xs.map cv).take (lo + root.toNat)).drop lo) (level + 1) < 0 then -1 else if shapeV n (((xs.map cv).take hi).drop (lo + root.toNat + 1)) (level + 1) < 0 then -1
     else if shapeV n (((xs.map cv).take (lo + root.toNat)).drop lo) (level + 1) ≤ shapeV n (((xs.map cv).take hi).drop (lo + root.toNat + 1)) (level + 1) + 1 ∧ shapeV n (((xs.map cv).take hi).drop (lo + root.toNat + 1)) (level + 1) ≤ shapeV n (((xs.map cv).take (lo + root.toNat)).drop lo) (level + 1) + 1
      then (if shapeV n (((xs.map cv).take hi).drop (lo + root.toNat + 1)) (level + 1) > shapeV n (((xs.map cv).take (lo + root.toNat)).drop lo) (level + 1) then shapeV n (((xs.map cv).take hi).drop (lo + root.toNat + 1)) (level + 1) + 1 else shapeV n (((xs.map cv).take (lo + root.toNat)).drop lo) (level + 1) + 1) else -1
theorem shape_ev (xs : List S54) (hx : xs.length ≤ 8192) (n : Nat) : ∀ (lo hi : Nat) (level : Int), lo ≤ hi → hi ≤ xs.length → hi - lo < n → 0 ≤ level → level ≤ 1000 →
  Ev (fun k => spec_l2Shape.f k xs (lo : Int) (hi : Int) level) (shapeV n (((xs.map cv).take hi).drop lo) level) := by
 induction n with
 | zero => intro lo hi level h1 h2 h3; omega
 | succ n ih =>
  intro lo hi level h1 h2 h3 l0 l1
  have hlen : ((((xs.map cv).take hi).drop lo)).length = hi - lo := by rw [List.length_drop, List.length_take, List.length_map]; omega
  by_cases c0 : hi ≤ lo
  ·refine ev_now fun k => ?_
   simp only [spec_l2Shape.f]
   rw [if_pos (by omega)]
   unfold shapeV
   have e : rootedV (n + 1) (((xs.map cv).take hi).drop lo) level = some .nil := by simp only [rootedV]; rw [if_pos (by omega)]
   rw [e]; rfl
  by_cases c1 : 40 < level
  ·refine ev_now fun k => ?_
   simp only [spec_l2Shape.f]
   rw [if_neg (by omega), if_pos c1]
   unfold shapeV
   have e : rootedV (n + 1) (((xs.map cv).take hi).drop lo) level = none := by simp only [rootedV]; rw [if_neg (by omega), if_pos c1]
   rw [e]
  refine Ev.step (fun k => by simp only [spec_l2Shape.f]; rw [if_neg (by omega), if_neg c1]) ?_
  have hV : shapeV (n + 1) (((xs.map cv).take hi).drop lo) level = shR xs n lo hi level (scanL level (((xs.map cv).take hi).drop lo) 0 (-1)) := by
   have e0 : ∀ o, rootedV (n + 1) (((xs.map cv).take hi).drop lo) level = o → shapeV (n + 1) (((xs.map cv).take hi).drop lo) level = match o with | some t => (TP.hgt t : Int) | none => -1 := by
    intro o h; unfold shapeV; rw [h]
   rw [e0 _ (by simp only [rootedV]; rw [if_neg (by omega), if_neg c1])]
   cases hs : scanL level (((xs.map cv).take hi).drop lo) 0 (-1) with
   | none => rfl
   | some root =>
    simp only [shR]
    by_cases hr : root < 0
    ·rw [if_pos hr, if_pos hr]
    ·rw [if_neg hr, if_neg hr]
     have hle := (scanL_le level _ 0 (-1) (by omega) (by omega) root hs).2
     rw [hlen] at hle
     have e1 : (((xs.map cv).take hi).drop lo).take root.toNat = ((xs.map cv).take (lo + root.toNat)).drop lo := by
      rw [List.take_drop, List.take_take]; congr 2; omega
     have e2 : (((xs.map cv).take hi).drop lo).drop (root.toNat + 1) = ((xs.map cv).take hi).drop (lo + root.toNat + 1) := by
      rw [List.drop_drop]; congr 1
     rw [e1, e2]
     unfold shapeV
     cases hl : rootedV n (((xs.map cv).take (lo + root.toNat)).drop lo) (level + 1) with
     | none => simp
     | some l =>
      cases hr2 : rootedV n (((xs.map cv).take hi).drop (lo + root.toNat + 1)) (level + 1) with
      | none => simp
      | some r =>
       simp only
       have k1 : ¬ ((TP.hgt l : Int) < 0) := by omega
       have k2 : ¬ ((TP.hgt r : Int) < 0) := by omega
       rw [if_neg k1, if_neg k2]
       by_cases hb : TP.hgt l ≤ TP.hgt r + 1 ∧ TP.hgt r ≤ TP.hgt l + 1
       ·have hb' : (TP.hgt l : Int) ≤ TP.hgt r + 1 ∧ (TP.hgt r : Int) ≤ TP.hgt l + 1 := by omega
        rw [if_pos hb, if_pos hb']
        simp only [TP.hgt]
        split <;> omega
       ·have hb' : ¬ ((TP.hgt l : Int) ≤ TP.hgt r + 1 ∧ (TP.hgt r : Int) ≤ TP.hgt l + 1) := by omega
        rw [if_neg hb, if_neg hb']
  rw [hV]
  generalize hR : scanL level (((xs.map cv).take hi).drop lo) 0 (-1) = R
  have hbound : ∀ root, R = some root → root < ((hi - lo : Nat) : Int) ∧ -1 ≤ root := by
   intro root h
   rw [h] at hR
   have := scanL_le level _ 0 (-1) (by omega) (by omega) root hR
   rw [hlen] at this; omega
  have main : ∀ (d i : Nat) (rel : Int), i + d = hi → lo ≤ i → -1 ≤ rel → rel < ((i - lo : Nat) : Int) → scanL level (((xs.map cv).take hi).drop i) (i - lo) rel = R →
    Ev (fun k => spec_l2Shape.l0 k xs (lo : Int) (hi : Int) level (if rel < 0 then -1 else (lo : Int) + rel) (i : Int)) (shR xs n lo hi level R) := by
   intro d
   induction d with
   | zero =>
    intro i rel hi' hlo hr0 hr1 hsc
    obtain rfl : i = hi := by omega
    have e : ((xs.map cv).take i).drop i = [] := List.drop_eq_nil_of_le (by rw [List.length_take]; omega)
    rw [e] at hsc
    simp only [scanL] at hsc
    subst hsc
    simp only [shR]
    by_cases hneg : rel < 0
    ·rw [if_pos hneg, if_pos hneg]
     refine ev_now fun k => ?_
     simp only [spec_l2Shape.l0]
     rw [if_neg (by omega), if_pos (by omega)]
    ·rw [if_neg hneg]
     obtain ⟨ρ, rfl⟩ : ∃ ρ : Nat, rel = ρ := ⟨rel.toNat, by omega⟩
     simp only [Int.toNat_natCast]
     refine Ev.step (fun k => by simp only [spec_l2Shape.l0]; rw [if_neg (by omega), if_neg (by omega)]) ?_
     have hl := ih lo (lo + ρ) (level + 1) (by omega) (by omega) (by omega) (by omega) (by omega)
     have hr := ih (lo + ρ + 1) i (level + 1) (by omega) (by omega) (by omega) (by omega) (by omega)
     have bl := shapeV_le n (((xs.map cv).take (lo + ρ)).drop lo) (level + 1)
     have br := shapeV_le n (((xs.map cv).take i).drop (lo + ρ + 1)) (level + 1)
     simp only [List.length_drop, List.length_take, List.length_map] at bl br
     generalize shapeV n (((xs.map cv).take (lo + ρ)).drop lo) (level + 1) = a at hl bl
     generalize shapeV n (((xs.map cv).take i).drop (lo + ρ + 1)) (level + 1) = b at hr br
     refine Ev.congr (f := fun k => (spec_l2Shape.f k xs (lo : Int) ((lo + ρ : Nat) : Int) (level + 1)).bind fun t108 => (if t108 < 0 then (some (-1)) else ((spec_l2Shape.f k xs ((lo + ρ + 1 : Nat) : Int) (i : Int) (level + 1)).bind fun t109 => (if t109 < 0 then (spec_l2Shape.j1 k t108 t109 true) else (if (wrap64 (t108 - t109)) > 1 then (spec_l2Shape.j1 k t108 t109 true) else (spec_l2Shape.j1 k t108 t109 (decide ((wrap64 (t109 - t108)) > 1)))))))) (fun k => by
      rw [w64 (x := level + 1) (by omega), w64 (x := (lo : Int) + (ρ : Int) + 1) (by omega)]; rfl) ?_
     refine Ev.bind hl ?_
     by_cases ca : a < 0
     ·rw [if_pos ca]; exact ev_const fun k => if_pos ca
     ·rw [if_neg ca]
      refine Ev.congr (fun k => if_neg ca) ?_
      refine Ev.bind hr ?_
      have J : ∀ t, Ev (fun k => spec_l2Shape.j1 k a b t) (if t = true then -1 else if b > a then b + 1 else a + 1) := by
       intro t
       refine ev_now fun k => ?_
       simp only [spec_l2Shape.j1]
       rw [w64 (by omega), w64 (by omega)]
       split
       ·rfl
       ·split <;> rfl
      by_cases cb : b < 0
      ·rw [if_pos cb]
       have := J true
       rw [if_pos rfl] at this
       exact Ev.congr (fun k => if_pos cb) this
      ·rw [if_neg cb]
       refine Ev.congr (fun k => if_neg cb) ?_
       by_cases cd : a - b > 1
       ·have nb : ¬ (a ≤ b + 1 ∧ b ≤ a + 1) := by omega
        rw [if_neg nb]
        have := J true
        rw [if_pos rfl] at this
        exact Ev.congr (fun k => if_pos (by rw [w64 (by omega)]; exact cd)) this
       ·refine Ev.congr (fun k => by rw [if_neg (by rw [w64 (by omega)]; exact cd), w64 (x := b - a) (by omega)]) ?_
        by_cases ce : b - a > 1
        ·have nb : ¬ (a ≤ b + 1 ∧ b ≤ a + 1) := by omega
         rw [if_neg nb]
         have := J (decide (b - a > 1))
         rw [if_pos (decide_eq_true ce)] at this
         exact this
        ·have nb : a ≤ b + 1 ∧ b ≤ a + 1 := by omega
         rw [if_pos nb]
         have := J (decide (b - a > 1))
         rw [if_neg (by rw [decide_eq_false ce]; simp)] at this
         exact this
   | succ d ihd =>
    intro i rel hi' hlo hr0 hr1 hsc
    have hlt : i < hi := by omega
    rw [seg_cons xs i hi hlt h2] at hsc
    simp only [scanL] at hsc
    have hx1 : (cv (rd_T54 xs (i : Int))).f1 = (rd_T54 xs (i : Int)).f1 := rfl
    rw [hx1] at hsc
    generalize hy : (rd_T54 xs (i : Int)).f1 = y at hsc
    by_cases d1 : y < level
    ·rw [if_pos (.inl d1)] at hsc
     subst hsc
     simp only [shR]
     refine ev_now fun k => ?_
     simp only [spec_l2Shape.l0, hy]
     rw [if_pos (by omega), if_pos (by omega), if_pos (by omega), if_pos d1]
    ·by_cases d2 : y = level
     ·by_cases d3 : 0 ≤ rel
      ·rw [if_pos (.inr ⟨d2, d3⟩)] at hsc
       subst hsc
       simp only [shR]
       refine ev_now fun k => ?_
       simp only [spec_l2Shape.l0, hy]
       rw [if_pos (by omega), if_pos (by omega), if_pos (by omega), if_neg d1, if_pos d2, if_pos (by rw [if_neg (by omega)]; omega)]
      ·rw [if_neg (by omega), if_pos d2] at hsc
       have h := ihd (i + 1) (((i - lo : Nat) : Int)) (by omega) (by omega) (by omega) (by omega) (by rw [← hsc]; congr 1; omega)
       refine Ev.step (fun k => ?_) h
       simp only [spec_l2Shape.l0, hy]
       rw [if_pos (by omega), if_pos (by omega), if_pos (by omega), if_neg d1, if_pos d2, if_neg (by rw [if_pos (by omega)]; omega), w64 (by omega), if_neg (by omega)]
       congr 1
       omega
     ·rw [if_neg (by omega), if_neg d2] at hsc
      have h := ihd (i + 1) rel (by omega) (by omega) (by omega) (by omega) (by rw [← hsc]; congr 1; omega)
      refine Ev.step (fun k => ?_) h
      simp only [spec_l2Shape.l0, hy]
      rw [if_pos (by omega), if_pos (by omega), if_pos (by omega), if_neg d1, if_neg d2, w64 (by omega)]
      rfl
  have := main (hi - lo) lo (-1) (by omega) (by omega) (by omega) (by omega) (by rw [Nat.sub_self]; exact hR)
  rw [if_pos (by omega)] at this
  exact this
theorem valid_loop (xs : List S54) (hn : xs.length ≤ 8192) (d : Nat) : ∀ i : Nat, i + d = xs.length → AllGood ((xs.take i).map cv) →
  Ev (fun k => spec_L2Valid.l0 k xs (xs.length : Int) (i : Int) xs) (decide ((grownV (xs.map cv)).isSome = true)) := by
 induction d with
 | zero =>
  intro i hi hg
  obtain rfl : i = xs.length := by omega
  rw [List.take_length] at hg
  refine Ev.step (fun k => by simp only [spec_L2Valid.l0]; rw [if_neg (by omega)]) ?_
  refine Ev.bind (total_ev xs hn hg) ?_
  unfold grownV
  rw [List.length_map]
  by_cases cs : sumL (xs.map cv) ≤ 8192
  ·rw [if_pos ⟨hn, hg, cs⟩]
   refine Ev.congr (fun k => if_pos cs) ?_
   have hsh := shape_ev xs hn (xs.length + 1) 0 xs.length 0 (by omega) (by omega) (by omega) (by omega) (by omega)
   rw [List.drop_zero, List.take_of_length_le (by rw [List.length_map]; omega)] at hsh
   refine Ev.bind hsh ?_
   refine ev_const fun _ => ?_
   unfold shapeV
   cases rootedV (xs.length + 1) (xs.map cv) 0 with
   | none => rfl
   | some t => simp
  ·rw [if_neg (fun h => cs h.2.2)]
   exact ev_const fun k => by rw [if_neg cs]; rfl
 | succ d ih =>
  intro i hi hg
  have hlt : i < xs.length := by omega
  refine Ev.step (fun k => by simp only [spec_L2Valid.l0]; rw [if_pos (by omega), if_pos (by omega), if_pos (by omega), pieceOk_is, Option.bind_some, w64 (by omega)]) ?_
  have ex : rd_T54 xs (i : Int) = xs[i] := rdI xs i hlt
  rw [ex]
  by_cases gd : goodP (cv xs[i])
  ·refine Ev.congr (fun k => if_pos (decide_eq_true gd)) ?_
   exact ih (i + 1) (by omega) (fun y hy => by
    rw [List.take_succ_eq_append_getElem hlt, List.map_append] at hy
    rcases List.mem_append.1 hy with hy | hy
    ·exact hg y hy
    ·simp only [List.map_cons, List.map_nil, List.mem_singleton] at hy
     rw [hy]; exact gd)
  ·refine ev_const fun k => ?_
   rw [if_neg (by rw [decide_eq_false gd]; simp)]
   unfold grownV
   rw [if_neg (fun h => gd (h.2.1 (cv xs[i]) (List.mem_map.2 ⟨xs[i], List.getElem_mem hlt, rfl⟩)))]
   rfl
theorem valid_ev (xs : List S54) : Ev (fun k => spec_L2Valid.f k xs) (decide ((grownV (xs.map cv)).isSome = true)) := by
 unfold spec_L2Valid.f
 by_cases c : (xs.length : Int) > 8192
 ·refine ev_const fun k => ?_
  rw [if_pos c]
  unfold grownV
  rw [if_neg (fun h => by have := h.1; rw [List.length_map] at this; omega)]
  rfl
 ·refine Ev.congr (fun k => if_neg c) ?_
  exact valid_loop xs (by omega) xs.length 0 (by omega) (fun y hy => by simp at hy)
/-! the specification's lists of levels are trees told in order -/
def gx (x : S54) : Pc × Int := itv (cv x)
def mkS (x : Pc × Int) : S54 := ⟨⟨x.1.off, x.1.len, x.1.brk⟩, x.2⟩
theorem mkS_gx (x : S54) : mkS (gx x) = x := rfl
theorem gx_mkS (x : Pc × Int) : gx (mkS x) = x := rfl
theorem of_gx {xs : List S54} {L : List (Pc × Int)} (h : xs.map gx = L) : xs = L.map mkS := by
 subst h; rw [List.map_map]; simp [Function.comp_def, mkS_gx]
theorem map_gx_mkS (L : List (Pc × Int)) : (L.map mkS).map gx = L := by rw [List.map_map]; simp [Function.comp_def, gx_mkS]
def pS (p : Pc) : S50 := ⟨p.off, p.len, p.brk⟩
/-! draws: what a draw ends in, as far as a law needs it -/
def EvP {α : Type} (g : Nat → Option α) (P : α → Prop) : Prop := ∃ r, Ev g r ∧ P r
theorem EvP.bind {α β : Type} {g : Nat → Option α} {f : Nat → α → Option β} {P : α → Prop} {Q : β → Prop} (h : EvP g P) (k : ∀ a, P a → EvP (fun n => f n a) Q) : EvP (fun n => (g n).bind (f n)) Q := by
 obtain ⟨r, h1, h2⟩ := h
 obtain ⟨s, h3, h4⟩ := k r h2
 exact ⟨s, Ev.bind h1 h3, h4⟩
theorem EvP.step {α : Type} {g f : Nat → Option α} {P : α → Prop} (h : ∀ k, g (k + 1) = f k) (k : EvP f P) : EvP g P := by
 obtain ⟨r, h1, h2⟩ := k
 exact ⟨r, Ev.step h h1, h2⟩
theorem EvP.congr {α : Type} {g f : Nat → Option α} {P : α → Prop} (h : ∀ k, g k = f k) (k : EvP f P) : EvP g P := by
 obtain ⟨r, h1, h2⟩ := k
 exact ⟨r, Ev.congr h h1, h2⟩
theorem EvP.now {α : Type} {g : Nat → Option α} {P : α → Prop} {r : α} (h : ∀ k, g (k + 1) = some r) (hp : P r) : EvP g P := ⟨r, ev_now h, hp⟩
theorem EvP.const {α : Type} {g : Nat → Option α} {P : α → Prop} {r : α} (h : ∀ k, g k = some r) (hp : P r) : EvP g P := ⟨r, ev_const h, hp⟩
theorem EvP.of {α : Type} {g : Nat → Option α} {P : α → Prop} {r : α} (h : Ev g r) (hp : P r) : EvP g P := ⟨r, h, hp⟩
theorem EvP.mono {α : Type} {g : Nat → Option α} {P Q : α → Prop} (h : EvP g P) (k : ∀ r, P r → Q r) : EvP g Q := by
 obtain ⟨r, h1, h2⟩ := h
 exact ⟨r, h1, k r h2⟩
def Src (b : List Int) (i : Int) : Prop := 0 ≤ i ∧ i ≤ (b.length : Int) ∧ b.length ≤ 1048576
theorem u64_in (x : Int) : 0 ≤ IntKind.u64.wrap x ∧ IntKind.u64.wrap x < 18446744073709551616 := by rw [IntKind.wrap_u64]; omega
theorem n_p (b : List Int) (i x a : Int) (hs : Src b i) (ha : 1 ≤ a ∧ a ≤ 1099511627776) : EvP (fun _ => spec_l1Src_n.f b i x a) (fun r => 0 ≤ r.1 ∧ r.1 < a ∧ Src b r.2.1) := by
 obtain ⟨h0, h1, h2⟩ := hs
 unfold spec_l1Src_n.f
 have val : ∀ y : Int, 1 < a → 0 ≤ wrap64 (Int.tmod (IntKind.u64.wrap y / 8589934592) (IntKind.u64.wrap a)) ∧ wrap64 (Int.tmod (IntKind.u64.wrap y / 8589934592) (IntKind.u64.wrap a)) < a := by
  intro y h
  have hy := u64_in y
  have e : IntKind.u64.wrap a = a := by rw [IntKind.wrap_u64]; omega
  rw [e, Int.tmod_eq_emod_of_nonneg (by omega)]
  have := Int.emod_nonneg (IntKind.u64.wrap y / 8589934592) (show a ≠ 0 by omega)
  have := Int.emod_lt_of_pos (IntKind.u64.wrap y / 8589934592) (show 0 < a by omega)
  rw [w64 (by omega)]; omega
 have nz : 1 < a → ¬ IntKind.u64.wrap a = 0 := fun h => by rw [IntKind.wrap_u64]; omega
 by_cases c1 : i < (b.length : Int)
 ·by_cases c2 : a ≤ 1
  ·exact EvP.const (fun k => by rw [if_pos c1, if_pos h0, if_pos c2]) ⟨by simp, by simp; omega, by simp only [Src]; rw [w64 (by omega)]; omega⟩
  ·exact EvP.const (fun k => by rw [if_pos c1, if_pos h0, if_neg c2, if_neg (nz (by omega))]) ⟨(val _ (by omega)).1, (val _ (by omega)).2, by simp only [Src]; rw [w64 (by omega)]; omega⟩
 ·by_cases c2 : a ≤ 1
  ·exact EvP.const (fun k => by rw [if_neg c1, if_pos c2]) ⟨by simp, by simp; omega, h0, h1, h2⟩
  ·exact EvP.const (fun k => by rw [if_neg c1, if_neg c2, if_neg (nz (by omega))]) ⟨(val _ (by omega)).1, (val _ (by omega)).2, h0, h1, h2⟩
theorem one_p (b : List Int) (i x a : Int) (hs : Src b i) (ha : 1 ≤ a ∧ a ≤ 1099511627776) : EvP (fun _ => spec_l1Src_one.f b i x a) (fun r => Src b r.2.1) := by
 unfold spec_l1Src_one.f
 refine EvP.bind (n_p b i x a hs ha) fun r hr => ?_
 exact EvP.const (fun _ => rfl) hr.2.2
def PieceP (b : List Int) (r : Int × Int × Int × Int × Int) : Prop := GoodPc ⟨r.1, r.2.1, r.2.2.1⟩ ∧ r.2.1 ≤ 9 ∧ Src b r.2.2.2.1
theorem piece_p (b : List Int) (i x : Int) (hs : Src b i) : EvP (fun _ => spec_L2DrawPiece.f b i x) (PieceP b) := by
 unfold spec_L2DrawPiece.f
 refine EvP.bind (n_p b i x 500 hs (by omega)) fun r1 h1 => ?_
 refine EvP.bind (n_p b _ _ 9 h1.2.2 (by omega)) fun r2 h2 => ?_
 rw [w64 (x := 1 + r2.1) (by omega), w64 (x := 1 + r2.1 + 1) (by omega), w64 (x := 220000 - (1 + r2.1)) (by omega)]
 refine EvP.bind (n_p b _ _ _ h2.2.2 (by omega)) fun r3 h3 => ?_
 refine EvP.bind (one_p b _ _ 2 h3.2.2 (by omega)) fun r4 h4 => ?_
 by_cases c : r4.1 = true
 ·refine EvP.congr (fun k => if_pos c) ?_
  refine EvP.bind (one_p b _ _ 20 h4 (by omega)) fun r5 h5 => ?_
  by_cases c2 : r5.1 = true
  ·exact EvP.const (fun k => if_pos c2) ⟨by unfold GoodPc; simp only; omega, by simp only; omega, h5⟩
  ·exact EvP.const (fun k => if_neg c2) ⟨by unfold GoodPc; simp only; omega, by simp only; omega, h5⟩
 ·refine EvP.congr (fun k => if_neg c) ?_
  refine EvP.bind (one_p b _ _ 20 h4 (by omega)) fun r5 h5 => ?_
  by_cases c2 : r5.1 = true
  ·exact EvP.const (fun k => if_pos c2) ⟨by unfold GoodPc; simp only; omega, by simp only; omega, h5⟩
  ·exact EvP.const (fun k => if_neg c2) ⟨by unfold GoodPc; simp only; omega, by simp only; omega, h5⟩
def LevP (b : List Int) (h lv : Int) (r : List Int × Int × Int) : Prop := (∃ s : TP.Tr Unit, TP.Avl s ∧ (TP.hgt s : Int) = max h 0 ∧ r.1 = (TP.flat s lv).map Prod.snd) ∧ Src b r.2.1
theorem LevP.len {b : List Int} {h lv : Int} {r : List Int × Int × Int} (hp : LevP b h lv r) (hh : h ≤ 7) : r.1.length ≤ 127 := by
 obtain ⟨⟨s, h1, h2, h3⟩, -⟩ := hp
 rw [h3, List.length_map, TP.flat_length]
 have h4 := cnt_pow s
 have h5 : 2 ^ TP.hgt s ≤ 2 ^ 7 := Nat.pow_le_pow_right (by omega) (by omega)
 have e7 : (2 : Nat) ^ 7 = 128 := by decide
 omega
theorem lev_step (b : List Int) (h hl hr lv lean : Int) (hh : 0 < h ∧ h ≤ 7) (a1 : hl ≤ h - 1) (a2 : hr ≤ h - 1) (a3 : h - 2 ≤ hl) (a4 : h - 2 ≤ hr) (a5 : hl = h - 1 ∨ hr = h - 1)
  (ihl : ∀ i x, Src b i → EvP (fun k => spec_l2Levels.f k b i x hl (lv + 1) lean) (LevP b hl (lv + 1)))
  (ihr : ∀ i x, Src b i → EvP (fun k => spec_l2Levels.f k b i x hr (lv + 1) lean) (LevP b hr (lv + 1))) (i x : Int) (hs : Src b i) :
  EvP (fun k => (spec_l2Levels.f k b i x hl (lv + 1) lean).bind fun bt => (if bt.1.length < 17592186044416 then ((some (bt.1 ++ [lv] : List Int)).bind fun y => ((spec_l2Levels.f k b bt.2.1 bt.2.2 hr (lv + 1) lean).bind fun bt2 => (if y.length + bt2.1.length < 17592186044416 then (some ((y ++ bt2.1), bt2.2.1, bt2.2.2)) else (none)))) else (none))) (LevP b h lv) := by
 refine EvP.bind (ihl i x hs) fun r h1 => ?_
 have l1 := h1.len (by omega)
 obtain ⟨⟨s, s1, s2, s3⟩, hs1⟩ := h1
 refine EvP.congr (fun k => if_pos (by omega)) ?_
 refine EvP.bind (EvP.const (fun _ => rfl) (P := (· = r.1 ++ [lv])) rfl) fun y hy => ?_
 subst hy
 refine EvP.bind (ihr _ _ hs1) fun q h2 => ?_
 have l2 := h2.len (by omega)
 obtain ⟨⟨t, t1, t2, t3⟩, hs2⟩ := h2
 refine EvP.const (fun k => if_pos (by rw [List.length_append]; simp only [List.length_cons, List.length_nil]; omega)) ⟨⟨.node s () t, ⟨s1, t1, by omega, by omega⟩, ?_, ?_⟩, hs2⟩
 ·simp only [TP.hgt]; omega
 ·simp only [TP.flat]
  rw [s3, t3, List.map_append, List.map_cons, List.append_assoc]; rfl
theorem levels_p (b : List Int) (lean : Int) (n : Nat) : ∀ (h lv i x : Int), n ≤ 7 → h ≤ n → -1 ≤ h → 0 ≤ lv → lv + n ≤ 100 → Src b i → EvP (fun k => spec_l2Levels.f k b i x h lv lean) (LevP b h lv) := by
 induction n with
 | zero =>
  intro h lv i x _ h1 h2 _ _ hs
  refine EvP.now (fun k => by simp only [spec_l2Levels.f]; rw [if_pos (by omega)]) ⟨⟨.nil, trivial, ?_, ?_⟩, hs⟩
  ·simp only [TP.hgt]; omega
  ·simp [TP.flat]
 | succ n ih =>
  intro h lv i x h0 h1 h2 h3 h4 hs
  by_cases c : h ≤ 0
  ·refine EvP.now (fun k => by simp only [spec_l2Levels.f]; rw [if_pos c]) ⟨⟨.nil, trivial, ?_, ?_⟩, hs⟩
   ·simp only [TP.hgt]; omega
   ·simp [TP.flat]
  have step1 : ∀ i x, Src b i → EvP (fun k => spec_l2Levels.f k b i x (h - 1) (lv + 1) lean) (LevP b (h - 1) (lv + 1)) := fun i x hs => ih _ _ i x (by omega) (by omega) (by omega) (by omega) (by omega) hs
  have step2 : ∀ i x, Src b i → EvP (fun k => spec_l2Levels.f k b i x (h - 1 - 1) (lv + 1) lean) (LevP b (h - 1 - 1) (lv + 1)) := fun i x hs => ih _ _ i x (by omega) (by omega) (by omega) (by omega) (by omega) hs
  refine EvP.step (fun k => by simp only [spec_l2Levels.f]; rw [if_neg c, w64 (x := h - 1) (by omega), w64 (x := h - 1 - 1) (by omega), w64 (x := lv + 1) (by omega)]) ?_
  refine EvP.bind (n_p b i x 4 hs (by omega)) fun r hr => ?_
  by_cases c1 : r.1 < lean
  ·refine EvP.congr (fun k => if_pos c1) ?_
   refine EvP.bind (one_p b _ _ 2 hr.2.2 (by omega)) fun q hq => ?_
   by_cases c2 : q.1 = true
   ·refine EvP.congr (fun k => if_pos c2) ?_
    exact lev_step b h _ _ lv lean (by omega) (by omega) (by omega) (by omega) (by omega) (by omega) step2 step1 _ _ hq
   ·refine EvP.congr (fun k => if_neg c2) ?_
    exact lev_step b h _ _ lv lean (by omega) (by omega) (by omega) (by omega) (by omega) (by omega) step1 step2 _ _ hq
  ·refine EvP.congr (fun k => if_neg c1) ?_
   exact lev_step b h _ _ lv lean (by omega) (by omega) (by omega) (by omega) (by omega) (by omega) step1 step1 _ _ hr.2.2
def ItemsP (_b : List Int) (L : List Int) (n : Nat) (acc : List S54) : Prop := ∃ ps : List Pc, ps.length = n ∧ (∀ p ∈ ps, GoodPc p) ∧ (ps.map Pc.len).sum ≤ 9 * (n : Int) ∧ acc = (ps.zip (L.take n)).map mkS
theorem items_p (b : List Int) (L : List Int) (hL : L.length ≤ 127) (d : Nat) : ∀ (j : Nat) (i x : Int) (acc : List S54), j + d = L.length → Src b i → ItemsP b L j acc →
  EvP (fun k => spec_l2DrawTree.l0 k L (L.length : Int) (j : Int) b i x acc) (fun r => ItemsP b L L.length r.1 ∧ Src b r.2.1) := by
 induction d with
 | zero =>
  intro j i x acc hj hs ha
  obtain rfl : j = L.length := by omega
  exact EvP.now (fun k => by simp only [spec_l2DrawTree.l0]; rw [if_neg (by omega)]) ⟨ha, hs⟩
 | succ d ih =>
  intro j i x acc hj hs ha
  have hlt : j < L.length := by omega
  obtain ⟨ps, p1, p2, p3, p4⟩ := ha
  have hacc : acc.length ≤ 127 := by rw [p4, List.length_map, List.length_zip, p1, List.length_take]; omega
  refine EvP.step (fun k => by simp only [spec_l2DrawTree.l0]; rw [if_pos (by omega), if_pos (by omega), if_pos (by omega)]) ?_
  refine EvP.bind (piece_p b i x hs) fun r hr => ?_
  obtain ⟨g1, g2, g3⟩ := hr
  refine EvP.congr (fun k => by rw [if_pos (by omega), w64 (by omega), show (j : Int) + 1 = ((j + 1 : Nat) : Int) by omega]) ?_
  refine ih (j + 1) _ _ _ (by omega) g3 ⟨ps ++ [⟨r.1, r.2.1, r.2.2.1⟩], ?_, ?_, ?_, ?_⟩
  ·rw [List.length_append, p1]; rfl
  ·intro p hp
   rcases List.mem_append.1 hp with h | h
   ·exact p2 p h
   ·simp only [List.mem_singleton] at h; subst h; exact g1
  ·rw [List.map_append, List.sum_append]
   simp only [List.map_cons, List.map_nil, List.sum_cons, List.sum_nil]
   omega
  ·rw [List.take_succ_eq_append_getElem hlt, List.zip_append (by rw [p1, List.length_take]; omega), List.map_append, ← p4]
   have : rd L (j : Int) = L[j] := by unfold rd; simp [List.getD, hlt]
   rw [this]; rfl
structure GT (t : Tree) : Prop where
 avl : TP.Avl t
 good : ∀ p ∈ TP.toL t, GoodPc p
 sum : ((TP.toL t).map Pc.len).sum ≤ 8192
theorem tall_p (d : Nat) : ∀ (a n : Int), n ≤ d → 0 ≤ n → 2 ≤ a → a + n ≤ 2000000 → EvP (fun k => spec_l2Tall.l0 k a n) (fun r => 2 ≤ r ∧ r ≤ 7) := by
 induction d with
 | zero =>
  intro a n h1 h2 h3 h4
  by_cases c : a > 7
  ·exact EvP.now (fun k => by simp only [spec_l2Tall.l0]; rw [if_neg (by omega), if_pos c]) (by omega)
  ·exact EvP.now (fun k => by simp only [spec_l2Tall.l0]; rw [if_neg (by omega), if_neg c]) (by omega)
 | succ d ih =>
  intro a n h1 h2 h3 h4
  by_cases c2 : n > 2
  ·have e : Int.tdiv n 2 = n / 2 := Int.tdiv_eq_ediv_of_nonneg (by omega)
   refine EvP.step (fun k => by simp only [spec_l2Tall.l0]; rw [if_pos c2, w64 (x := a + 1) (by omega), e, w64 (x := n / 2) (by omega)]) ?_
   exact ih _ _ (by omega) (by omega) (by omega) (by omega)
  by_cases c : a > 7
  ·exact EvP.now (fun k => by simp only [spec_l2Tall.l0]; rw [if_neg (by omega), if_pos c]) (by omega)
  ·exact EvP.now (fun k => by simp only [spec_l2Tall.l0]; rw [if_neg (by omega), if_neg c]) (by omega)
def TreeP (b : List Int) (r : List S54 × Int × Int) : Prop := (∃ t : Tree, TP.Avl t ∧ (∀ p ∈ TP.toL t, GoodPc p) ∧ ((TP.toL t).map Pc.len).sum ≤ 1143 ∧ r.1 = (TP.flat t 0).map mkS) ∧ Src b r.2.1
theorem tree_p (b : List Int) (i x : Int) (code : List Int) (hc : code.length ≤ 1048576) (hs : Src b i) : EvP (fun k => spec_L2DrawTree.f k b i x code) (TreeP b) := by
 unfold spec_L2DrawTree.f spec_l2Tall.f
 refine EvP.bind (tall_p code.length 2 (code.length : Int) (by omega) (by omega) (by omega) (by omega)) fun hg hh => ?_
 refine EvP.bind (P := TreeP b) ?_ fun r hr => ?_
 ·unfold spec_l2DrawTree.f
  refine EvP.bind (n_p b i x _ hs (by rw [w64 (by omega)]; omega)) fun r1 h1 => ?_
  rw [w64 (by omega)] at h1
  refine EvP.bind (n_p b _ _ 5 h1.2.2 (by omega)) fun r2 h2 => ?_
  refine EvP.bind (levels_p b r2.1 7 r1.1 0 _ _ (by omega) (by omega) (by omega) (by omega) (by omega) h2.2.2) fun r3 h3 => ?_
  have hl := h3.len (by omega)
  obtain ⟨⟨s, s1, s2, s3⟩, hs3⟩ := h3
  refine (items_p b r3.1 hl r3.1.length 0 _ _ [] (by omega) hs3 ⟨[], rfl, by simp, by simp, by simp⟩).mono fun q hq => ?_
  obtain ⟨⟨ps, p1, p2, p3, p4⟩, hs4⟩ := hq
  have hn : TP.cnt s = r3.1.length := by rw [s3, List.length_map, TP.flat_length]
  obtain ⟨t, t1, t2, t3⟩ := fill s 0 ps (by omega) s1
  rw [← s3] at t1
  rw [List.take_length, ← t1] at p4
  have e : TP.toL t = ps := by
   rw [← TP.flat_toL t 0, t1]
   exact List.map_fst_zip (by omega)
  exact ⟨⟨t, t2, by rw [e]; exact p2, by rw [e]; omega, p4⟩, hs4⟩
 ·obtain ⟨⟨t, t1, t2, t3, t4⟩, hs1⟩ := hr
  have hl := len_sum _ t2
  have hlen : r.1.length = TP.cnt t := by rw [t4, List.length_map, TP.flat_length]
  rw [TP.toL_length] at hl
  by_cases c : (r.1.length : Int) = 0
  ·refine EvP.congr (fun k => if_pos c) ?_
   refine EvP.bind (piece_p b _ _ hs1) fun q hq => ?_
   obtain ⟨g1, g2, g3⟩ := hq
   have e : r.1 = [] := List.length_eq_zero_iff.1 (by omega)
   refine EvP.const (fun k => if_pos (by omega)) ⟨⟨.node .nil ⟨q.1, q.2.1, q.2.2.1⟩ .nil, ⟨trivial, trivial, by omega, by omega⟩, ?_, ?_, ?_⟩, g3⟩
   ·intro p hp
    simp only [TP.toL, List.nil_append, List.mem_singleton] at hp
    subst hp; exact g1
   ·simp only [TP.toL, List.nil_append, List.map_cons, List.map_nil, List.sum_cons, List.sum_nil]; omega
   ·rw [e]; rfl
  ·exact EvP.const (fun k => if_neg c) ⟨⟨t, t1, t2, t3, t4⟩, hs1⟩
/-! the laws' own helpers -/
theorem rdP (xs : List S50) (i : Nat) (h : i < xs.length) : rd_T50 xs (i : Int) = xs[i] := by unfold rd_T50; simp [List.getD, h]
theorem pieces_loop (xs : List S54) (hn : xs.length ≤ 1000000) (d : Nat) : ∀ i : Nat, i + d = xs.length →
  Ev (fun k => laws_pieces.l0 k ((xs.take i).map (·.f0)) xs (xs.length : Int) (i : Int)) (xs.map (·.f0)) := by
 induction d with
 | zero =>
  intro i hi
  obtain rfl : i = xs.length := by omega
  refine ev_now fun k => ?_
  simp only [laws_pieces.l0]
  rw [if_neg (by omega), List.take_length]
 | succ d ih =>
  intro i hi
  have hlt : i < xs.length := by omega
  refine Ev.step (f := fun k => laws_pieces.l0 k ((xs.take (i + 1)).map (·.f0)) xs (xs.length : Int) ((i + 1 : Nat) : Int)) (fun k => ?_) (ih (i + 1) (by omega))
  simp only [laws_pieces.l0]
  rw [if_pos (by omega), if_pos (by omega), if_pos (by omega), if_pos (by rw [List.length_map, List.length_take]; omega), w64 (by omega), rdI xs i hlt, List.take_succ_eq_append_getElem hlt, List.map_append]
  rfl
theorem pieces_ev (t : Tree) (hn : TP.cnt t ≤ 1000000) : Ev (fun k => laws_pieces.f k ((TP.flat t 0).map mkS)) ((TP.toL t).map pS) := by
 unfold laws_pieces.f
 have h := pieces_loop ((TP.flat t 0).map mkS) (by rw [List.length_map, TP.flat_length]; exact hn) _ 0 (Nat.zero_add _)
 have e : ((TP.flat t 0).map mkS).map (·.f0) = (TP.toL t).map pS := by
  rw [← TP.flat_toL t 0, List.map_map, List.map_map]; rfl
 rw [e] at h
 exact Ev.congr (fun k => by simp) h
theorem smPieces_loop (xs : List S50) (hn : xs.length ≤ 9000000) (d : Nat) : ∀ i : Nat, i + d = xs.length →
  Ev (fun k => laws_smPieces.l0 k xs xs (xs.length : Int) (i : Int)) true := by
 induction d with
 | zero => intro i hi; refine ev_now fun k => ?_; simp only [laws_smPieces.l0]; rw [if_neg (by omega)]
 | succ d ih =>
  intro i hi
  refine Ev.step (f := fun k => laws_smPieces.l0 k xs xs (xs.length : Int) ((i + 1 : Nat) : Int)) (fun k => ?_) (ih (i + 1) (by omega))
  simp only [laws_smPieces.l0]
  rw [if_pos (by omega), if_pos (by omega), if_pos (by omega), if_pos (by omega), if_neg (by simp), w64 (by omega)]; rfl
theorem smPieces_ev (xs : List S50) (hn : xs.length ≤ 9000000) : Ev (fun k => laws_smPieces.f k xs xs) true := by
 unfold laws_smPieces.f
 exact Ev.congr (fun k => if_pos rfl) (smPieces_loop xs hn xs.length 0 (by omega))
theorem toIt_cb (L : List (Pc × Int)) : (L.map toIt).map cb = L.map mkS := by rw [List.map_map]; rfl
theorem mkS_cv (L : List (Pc × Int)) : (L.map mkS).map cv = L.map toIt := by rw [List.map_map]; rfl
theorem GT.cnt {t : Tree} (h : GT t) : TP.cnt t ≤ 8192 := by
 have := len_sum _ h.good
 rw [TP.toL_length] at this
 have := h.sum
 omega
theorem GT.grown {t : Tree} (h : GT t) : grownV (((TP.flat t 0).map mkS).map cv) = some t := by rw [mkS_cv]; exact grownV_good t h.avl h.good h.sum
theorem GT.valid {t : Tree} (h : GT t) : Ev (fun k => spec_L2Valid.f k ((TP.flat t 0).map mkS)) true := by
 have := valid_ev ((TP.flat t 0).map mkS)
 rw [h.grown] at this
 simpa using this
theorem items_len (t : Tree) : ((TP.flat t 0).map mkS).length = TP.cnt t := by rw [List.length_map, TP.flat_length]
theorem sum_le_of_pos (xs : List Pc) (h : ∀ p ∈ xs, GoodPc p) : 0 ≤ (xs.map Pc.len).sum := by have := len_sum xs h; omega
theorem take_sum (xs : List Pc) (k : Nat) (_h : ∀ p ∈ xs, GoodPc p) : ((xs.take k).map Pc.len).sum + ((xs.drop k).map Pc.len).sum = (xs.map Pc.len).sum := by
 rw [← List.sum_append, ← List.map_append, List.take_append_drop]
theorem GT.split {t : Tree} (h : GT t) (k : Nat) (hk : k ≤ TP.cnt t) : GT (TP.split t k).1 ∧ GT (TP.split t k).2 ∧ TP.toL (TP.split t k).1 = (TP.toL t).take k ∧ TP.toL (TP.split t k).2 = (TP.toL t).drop k := by
 obtain ⟨h1, h2, h3, h4⟩ := TP.split_ok t k h.avl hk
 have g1 : ∀ p ∈ (TP.toL t).take k, GoodPc p := fun p hp => h.good p (List.mem_of_mem_take hp)
 have g2 : ∀ p ∈ (TP.toL t).drop k, GoodPc p := fun p hp => h.good p (List.mem_of_mem_drop hp)
 have hs := take_sum (TP.toL t) k h.good
 have p1 := sum_le_of_pos _ g1
 have p2 := sum_le_of_pos _ g2
 have := h.sum
 exact ⟨⟨h1, by rw [h3]; exact g1, by rw [h3]; omega⟩, ⟨h2, by rw [h4]; exact g2, by rw [h4]; omega⟩, h3, h4⟩
theorem split_is {t : Tree} (h : GT t) (k : Nat) (hk : k ≤ TP.cnt t) : impl_TreeSplit.f ((TP.flat t 0).map mkS) (k : Int) = some ((TP.flat (TP.split t k).1 0).map mkS, (TP.flat (TP.split t k).2 0).map mkS, 0) := by
 have hc := h.cnt
 unfold impl_TreeSplit.f
 rw [if_pos (by rw [items_len]; omega)]
 unfold treeSplitV
 rw [h.grown]
 simp only
 rw [if_pos (by rw [List.length_map, items_len]; omega)]
 simp only [Int.toNat_natCast]
 rw [toIt_cb, toIt_cb]
theorem GT.join {t u : Tree} (ht : GT t) (hu : GT u) (hs : ((TP.toL t).map Pc.len).sum + ((TP.toL u).map Pc.len).sum ≤ 8192) : GT (TP.together t u) ∧ TP.toL (TP.together t u) = TP.toL t ++ TP.toL u := by
 obtain ⟨h1, h2⟩ := TP.together_ok t u ht.avl hu.avl
 refine ⟨⟨h1, fun p hp => ?_, by rw [h2, List.map_append, List.sum_append]; omega⟩, h2⟩
 rw [h2] at hp
 rcases List.mem_append.1 hp with h | h
 ·exact ht.good p h
 ·exact hu.good p h
theorem join_is {t u : Tree} (ht : GT t) (hu : GT u) (hs : ((TP.toL t).map Pc.len).sum + ((TP.toL u).map Pc.len).sum ≤ 8192) : impl_TreeJoin.f ((TP.flat t 0).map mkS) ((TP.flat u 0).map mkS) = some ((TP.flat (TP.together t u) 0).map mkS, 0) := by
 have hc := ht.cnt
 have hc2 := hu.cnt
 unfold impl_TreeJoin.f
 rw [if_pos (by rw [items_len, items_len]; omega)]
 unfold treeJoinV
 rw [ht.grown, hu.grown]
 simp only
 rw [if_pos (by rw [(rl_toL t).1, (rl_toL u).1]; exact hs)]
 simp only
 rw [toIt_cb]
theorem cpTree_is (xs : List S54) (h : xs.length ≤ 1000000) : laws_cpTree.f xs = some xs := by
 unfold laws_cpTree.f
 simp only [Option.bind_some, List.nil_append]
 rw [if_pos (by simp only [List.length_nil]; omega)]
theorem loop_ev (t : Tree) (h : GT t) (d : Nat) : ∀ i : Nat, i + d = TP.cnt t + 1 → Ev (fun k => laws_FnSplitJoin.l0 k ((TP.toL t).map pS) (i : Int) ((TP.flat t 0).map mkS)) true := by
 have hc := h.cnt
 have hl : ((TP.toL t).map pS).length = TP.cnt t := by rw [List.length_map, TP.toL_length]
 induction d with
 | zero => intro i hi; exact ev_now fun k => by simp only [laws_FnSplitJoin.l0]; rw [if_neg (by omega)]
 | succ d ih =>
  intro i hi
  obtain ⟨g1, g2, e1, e2⟩ := h.split i (by omega)
  have hs := take_sum (TP.toL t) i h.good
  have hsum := h.sum
  rw [← e1, ← e2] at hs
  obtain ⟨g3, e3⟩ := g1.join g2 (by omega)
  have e4 : TP.toL (TP.together (TP.split t i).1 (TP.split t i).2) = TP.toL t := by rw [e3, e1, e2, List.take_append_drop]
  have c1 := g1.cnt
  have c2 := g2.cnt
  have c3 := g3.cnt
  have si := split_is h i (by omega)
  have ji := join_is g1 g2 (by omega)
  have P1 := pieces_ev (TP.split t i).1 (by omega)
  have P2 := pieces_ev (TP.split t i).2 (by omega)
  have P3 := pieces_ev (TP.together (TP.split t i).1 (TP.split t i).2) (by omega)
  rw [e1, List.map_take] at P1
  rw [e2, List.map_drop] at P2
  rw [e4] at P3
  refine Ev.step (fun k => by simp only [laws_FnSplitJoin.l0]; rw [if_pos (by omega)]) ?_
  refine Ev.bind (ev_const fun _ => cpTree_is _ (by rw [items_len]; omega)) ?_
  refine Ev.bind (ev_const fun _ => si) ?_
  refine Ev.congr (fun k => if_pos rfl) ?_
  refine Ev.bind P1 ?_
  refine Ev.congr (fun k => by rw [if_pos (by omega), Int.toNat_natCast]) ?_
  refine Ev.bind (smPieces_ev _ (by rw [List.length_take]; omega)) ?_
  refine Ev.congr (fun k => if_pos rfl) ?_
  refine Ev.bind P2 ?_
  refine Ev.bind (smPieces_ev _ (by rw [List.length_drop]; omega)) ?_
  refine Ev.step (fun k => by simp only [laws_FnSplitJoin.j1]; rw [if_neg (by simp)]) ?_
  refine Ev.bind g1.valid ?_
  refine Ev.congr (fun k => if_pos rfl) ?_
  refine Ev.bind g2.valid ?_
  refine Ev.step (fun k => by simp only [laws_FnSplitJoin.j2]; rw [if_neg (by simp)]) ?_
  refine Ev.bind (ev_const fun _ => ji) ?_
  refine Ev.congr (fun k => if_pos rfl) ?_
  refine Ev.bind g3.valid ?_
  refine Ev.congr (fun k => if_pos rfl) ?_
  refine Ev.bind P3 ?_
  refine Ev.bind (smPieces_ev _ (by omega)) ?_
  refine Ev.congr (fun k => by rw [if_pos rfl, w64 (by omega), show (i : Int) + 1 = ((i + 1 : Nat) : Int) by omega]) ?_
  exact ih (i + 1) (by omega)
theorem law (code : List Int) : ∃ k, laws_FnSplitJoin.f k code = some true := by
 refine Ev.rounds (g := fun k => laws_FnSplitJoin.f k code) ?_
 suffices h : EvP (fun k => laws_FnSplitJoin.f k code) (· = true) by obtain ⟨r, h1, h2⟩ := h; rw [← h2]; exact h1
 unfold laws_FnSplitJoin.f
 by_cases hc : (code.length : Int) > 1048576
 ·exact EvP.const (fun _ => if_pos hc) rfl
 refine EvP.congr (fun k => if_neg hc) ?_
 refine EvP.bind (P := fun r => r.1 = code ∧ r.2.1 = 0) (EvP.const (fun _ => rfl) ⟨rfl, rfl⟩) fun s hs => ?_
 obtain ⟨b, i, x⟩ := s
 obtain ⟨h1, h2⟩ := hs
 simp only at h1 h2
 subst h1
 subst h2
 refine EvP.bind (tree_p b 0 x b (by omega) ⟨by omega, by omega, by omega⟩) fun r hr => ?_
 obtain ⟨⟨t, t1, t2, t3, t4⟩, -⟩ := hr
 have g : GT t := ⟨t1, t2, by omega⟩
 have hcn := g.cnt
 rw [t4]
 refine EvP.bind (EvP.of (pieces_ev t (by omega)) (P := (· = (TP.toL t).map pS)) rfl) fun q hq => ?_
 subst hq
 exact EvP.of (loop_ev t g _ 0 (Nat.zero_add _)) rfl
end Go.Proofs.YtciabhncmdpeeaaDoor.PureFnSplitJoin
