/- The law FnExactTreeFindLine tells true, plainly, at every input. No condition. -/
import Derived.Test.YtciabhncmdpeeaaDoorQFnExactTreeFindLinex3
namespace Go.Proofs.YtciabhncmdpeeaaDoor.PureFnExactTreeFindLine
open Go Go.RowKit Go.Proofs.YtciabhncmdpeeaaDoor.QFnExactTreeFindLine Go.Proofs.YtciabhncmdpeeaaDoorW.PrintWords Go.Proofs.YtciabhncmdpeeaaDoorW.PrintLast
theorem w64 {x : Int} (h : -9223372036854775808 ≤ x ∧ x ≤ 9223372036854775807) : wrap64 x = x := by unfold wrap64; omega
theorem ev_now {α : Type} {g : Nat → Option α} {r : α} (h : ∀ k, g (k + 1) = some r) : Ev g r :=
  ⟨1, fun k hk => by obtain ⟨m, rfl⟩ : ∃ m, k = m + 1 := ⟨k - 1, by omega⟩; exact h m⟩
theorem ev_const {α : Type} {g : Nat → Option α} {r : α} (h : ∀ k, g k = some r) : Ev g r := ⟨0, fun k _ => h k⟩
theorem rdI (xs : List S54) (i : Nat) (h : i < xs.length) : rd_T54 xs (i : Int) = xs[i] := by unfold rd_T54; simp [List.getD, h]
theorem rdL (xs : List S128) (i : Nat) (h : i < xs.length) : rd_T128 xs (i : Int) = xs[i] := by unfold rd_T128; simp [List.getD, h]
/-- the law's item, as the program's -/
def tv (x : S128) : S54 := ⟨⟨x.f0.f0, x.f0.f1, x.f0.f2⟩, x.f1⟩
theorem toItemS_loop (xs : List S128) (hn : xs.length ≤ 1048576) (d : Nat) : ∀ i : Nat, i + d = xs.length →
    Ev (fun k => laws_toItemS.l0 k xs ((xs.take i).map tv ++ List.replicate d z54) (i : Int)) (xs.map tv) := by
  induction d with
  | zero =>
    intro i hi
    obtain rfl : i = xs.length := by omega
    refine ev_now fun k => ?_
    simp only [laws_toItemS.l0]
    rw [if_neg (by omega)]
    simp
  | succ d ih =>
    intro i hi
    have hlt : i < xs.length := by omega
    refine Ev.step (f := fun k => laws_toItemS.l0 k xs ((xs.take (i + 1)).map tv ++ List.replicate d z54) ((i + 1 : Nat) : Int)) (fun k => ?_) (ih (i + 1) (by omega))
    simp only [laws_toItemS.l0, laws_toItem.f, laws_toPiece.f, Option.bind_some]
    rw [if_pos (by omega), if_pos (by omega), if_pos (by simp; omega), w64 (by omega)]
    congr 1
    rw [rdL xs i hlt, Int.toNat_natCast, List.set_append_right _ _ (by simp; omega)]
    rw [show i - ((xs.take i).map tv).length = 0 by simp; omega, List.replicate_succ, List.set_cons_zero, List.take_succ_eq_append_getElem hlt, List.map_append, List.append_assoc]; rfl
theorem toTree_ev (xs : List S128) (hn : xs.length ≤ 1048576) : Ev (fun k => laws_toTree.f k xs) (xs.map tv) := by
  unfold laws_toTree.f
  refine Ev.bind (a := xs.map tv) ?_ (ev_const fun _ => rfl)
  unfold laws_toItemS.f
  refine Ev.congr (fun k => by rw [if_pos (by omega), if_pos (by omega)]) ?_
  have h := toItemS_loop xs hn xs.length 0 (by omega)
  simpa using h
theorem eqItem_is (x : S54) : laws_eqItem.f x.f0.f0 x.f0.f1 x.f0.f2 x.f1 x.f0.f0 x.f0.f1 x.f0.f2 x.f1 = some true := by
  unfold laws_eqItem.f laws_eqPiece.f
  simp
theorem eqItemS_loop (xs : List S54) (hn : xs.length ≤ 9000000) (d : Nat) : ∀ i : Nat, i + d = xs.length →
    Ev (fun k => laws_eqItemS.l0 k xs xs (i : Int)) true := by
  induction d with
  | zero => intro i hi; refine ev_now fun k => ?_; simp only [laws_eqItemS.l0]; rw [if_neg (by omega)]
  | succ d ih =>
    intro i hi
    refine Ev.step (f := fun k => laws_eqItemS.l0 k xs xs ((i + 1 : Nat) : Int)) (fun k => ?_) (ih (i + 1) (by omega))
    simp only [laws_eqItemS.l0]
    rw [if_pos (by omega), if_pos (by omega), if_pos (by omega), w64 (by omega), eqItem_is]; rfl
theorem eqTree_ev (xs : List S54) (hn : xs.length ≤ 9000000) : Ev (fun k => laws_eqTree.f k xs xs) true := by
  unfold laws_eqTree.f
  refine Ev.bind (a := true) ?_ (ev_const fun _ => if_pos rfl)
  unfold laws_eqItemS.f
  exact Ev.congr (fun k => if_pos rfl) (eqItemS_loop xs hn xs.length 0 (by omega))
theorem szTree_is (xs : List S128) (h : xs.length ≤ 1048576) : ∃ v, laws_szTree.f xs 1048576 = some v ∧ 0 ≤ v := by
  unfold laws_szTree.f laws_szItemS.f
  refine ⟨1048576 - (xs.length : Int), ?_, by omega⟩
  rw [w64 (by omega), if_neg (by omega)]
  simp only [Option.bind_some]
  rw [if_neg (by omega)]
theorem szTree_big (xs : List S128) (h : 1048576 < xs.length) (hm : xs.length ≤ 9223372036854775807) : laws_szTree.f xs 1048576 = some (-1) := by
  unfold laws_szTree.f laws_szItemS.f
  rw [w64 (by omega), if_pos (by omega)]
  rfl
/-! the specification's validity is the program's -/
theorem cv_rd (xs : List S54) (i : Nat) : QBase.rd_T54 (xs.map cv) (i : Int) = cv (rd_T54 xs (i : Int)) := by
  unfold QBase.rd_T54 rd_T54
  simp only [Int.toNat_natCast, List.getD, List.getElem?_map]
  cases xs[i]? <;> rfl
theorem pieceOk_is (x : S54) : spec_l2PieceOk.f x.f0.f0 x.f0.f1 x.f0.f2 = some (decide (goodP (cv x))) := by
  have no : ¬ goodP (cv x) → some false = some (decide (goodP (cv x))) := fun h => congrArg some (decide_eq_false h).symm
  unfold spec_l2PieceOk.f
  by_cases c1 : x.f0.f1 < 1
  · rw [if_pos c1]; exact no (fun h => by unfold goodP cv at h; simp only at h; omega)
  rw [if_neg c1]
  by_cases c2 : x.f0.f1 > 8192
  · rw [if_pos c2]; exact no (fun h => by unfold goodP cv at h; simp only at h; omega)
  rw [if_neg c2]
  by_cases c3 : x.f0.f0 < 0
  · rw [if_pos c3]; exact no (fun h => by unfold goodP cv at h; simp only at h; omega)
  rw [if_neg c3]
  by_cases c4 : x.f0.f0 > 220000
  · rw [if_pos c4]; exact no (fun h => by unfold goodP cv at h; simp only at h; omega)
  rw [if_neg c4, w64 (by omega)]
  by_cases c5 : x.f0.f0 + x.f0.f1 ≤ 220000
  · rw [if_pos c5]
    by_cases c6 : x.f0.f2 ≥ 0
    · rw [if_pos c6]; exact congrArg some (decide_eq_decide.2 (by unfold goodP cv; simp only; omega))
    · rw [if_neg c6]; exact no (fun h => by unfold goodP cv at h; simp only at h; omega)
  · rw [if_neg c5]; exact no (fun h => by unfold goodP cv at h; simp only at h; omega)
theorem total_loop (xs : List S54) (hn : xs.length ≤ 8192) (hg : AllGood (xs.map cv)) (d : Nat) : ∀ i : Nat, i + d = xs.length →
    Ev (fun k => spec_l2Total.l0 k (sumL ((xs.take i).map cv)) xs (xs.length : Int) (i : Int)) (sumL (xs.map cv)) := by
  induction d with
  | zero =>
    intro i hi
    obtain rfl : i = xs.length := by omega
    refine ev_now fun k => ?_
    simp only [spec_l2Total.l0]
    rw [if_neg (by omega), List.take_length]
  | succ d ih =>
    intro i hi
    have hlt : i < xs.length := by omega
    have hb := sumL_bound ((xs.take i).map cv) (fun y hy => hg y (by
      obtain ⟨z, hz, rfl⟩ := List.mem_map.1 hy
      exact List.mem_map.2 ⟨z, List.mem_of_mem_take hz, rfl⟩))
    have hx := hg (cv xs[i]) (List.mem_map.2 ⟨xs[i], List.getElem_mem hlt, rfl⟩)
    unfold goodP at hx
    simp only [List.length_map, List.length_take] at hb
    have e : sumL ((xs.take (i + 1)).map cv) = sumL ((xs.take i).map cv) + xs[i].f0.f1 := by
      rw [List.take_succ_eq_append_getElem hlt, List.map_append, sumL_app]; simp [sumL, cv]
    refine Ev.step (f := fun k => spec_l2Total.l0 k (sumL ((xs.take (i + 1)).map cv)) xs (xs.length : Int) ((i + 1 : Nat) : Int)) (fun k => ?_) (ih (i + 1) (by omega))
    simp only [spec_l2Total.l0]
    simp only [cv] at hx
    rw [if_pos (by omega), if_pos (by omega), if_pos (by omega), rdI xs i hlt, w64 (by omega), w64 (by omega), e]; rfl
theorem total_ev (xs : List S54) (hn : xs.length ≤ 8192) (hg : AllGood (xs.map cv)) : Ev (fun k => spec_l2Total.f k xs) (sumL (xs.map cv)) := by
  unfold spec_l2Total.f
  exact total_loop xs hn hg xs.length 0 (by omega)
/-- the height of what a stretch roots, or -1 -/
def shapeV (n : Nat) (ys : List It) (level : Int) : Int := match rootedV n ys level with | some t => (TP.hgt t : Int) | none => -1
theorem seg_cons (xs : List S54) (lo hi : Nat) (h : lo < hi) (hh : hi ≤ xs.length) : ((xs.map cv).take hi).drop lo = cv (rd_T54 xs (lo : Int)) :: ((xs.map cv).take hi).drop (lo + 1) := by
  rw [rd_drop _ lo (by rw [List.length_take, List.length_map]; omega)]
  congr 1
  rw [← cv_rd]
  unfold QBase.rd_T54
  simp only [Int.toNat_natCast, List.getD, List.getElem?_take]
  rw [if_pos h]
theorem shapeV_le (n : Nat) (ys : List It) (level : Int) : -1 ≤ shapeV n ys level ∧ shapeV n ys level ≤ ys.length := by
  unfold shapeV
  cases h : rootedV n ys level with
  | none => simp only; omega
  | some t =>
    have := rootedV_cnt _ _ _ _ h
    have := TP.hgt_le t
    simp only; omega
/-- the height out of the root's place (or none) -/
def shR (xs : List S54) (n lo hi : Nat) (level : Int) : Option Int → Int
  | none => -1
  | some root => if root < 0 then -1 else
          if shapeV n (((xs.map cv).take (lo + root.toNat)).drop lo) (level + 1) < 0 then -1 else if shapeV n (((xs.map cv).take hi).drop (lo + root.toNat + 1)) (level + 1) < 0 then -1
          else if shapeV n (((xs.map cv).take (lo + root.toNat)).drop lo) (level + 1) ≤ shapeV n (((xs.map cv).take hi).drop (lo + root.toNat + 1)) (level + 1) + 1 ∧ shapeV n (((xs.map cv).take hi).drop (lo + root.toNat + 1)) (level + 1) ≤ shapeV n (((xs.map cv).take (lo + root.toNat)).drop lo) (level + 1) + 1
            then (if shapeV n (((xs.map cv).take hi).drop (lo + root.toNat + 1)) (level + 1) > shapeV n (((xs.map cv).take (lo + root.toNat)).drop lo) (level + 1) then shapeV n (((xs.map cv).take hi).drop (lo + root.toNat + 1)) (level + 1) + 1 else shapeV n (((xs.map cv).take (lo + root.toNat)).drop lo) (level + 1) + 1) else -1
theorem shape_ev (xs : List S54) (hx : xs.length ≤ 8192) (n : Nat) : ∀ (lo hi : Nat) (level : Int), lo ≤ hi → hi ≤ xs.length → hi - lo < n → 0 ≤ level → level ≤ 1000 →
    Ev (fun k => spec_l2Shape.f k xs (lo : Int) (hi : Int) level) (shapeV n (((xs.map cv).take hi).drop lo) level) := by
  induction n with
  | zero => intro lo hi level h1 h2 h3; omega
  | succ n ih =>
    intro lo hi level h1 h2 h3 l0 l1
    have hlen : ((((xs.map cv).take hi).drop lo)).length = hi - lo := by rw [List.length_drop, List.length_take, List.length_map]; omega
    by_cases c0 : hi ≤ lo
    · refine ev_now fun k => ?_
      simp only [spec_l2Shape.f]
      rw [if_pos (by omega)]
      unfold shapeV
      have e : rootedV (n + 1) (((xs.map cv).take hi).drop lo) level = some .nil := by simp only [rootedV]; rw [if_pos (by omega)]
      rw [e]; rfl
    by_cases c1 : 40 < level
    · refine ev_now fun k => ?_
      simp only [spec_l2Shape.f]
      rw [if_neg (by omega), if_pos c1]
      unfold shapeV
      have e : rootedV (n + 1) (((xs.map cv).take hi).drop lo) level = none := by simp only [rootedV]; rw [if_neg (by omega), if_pos c1]
      rw [e]
    refine Ev.step (fun k => by simp only [spec_l2Shape.f]; rw [if_neg (by omega), if_neg c1]) ?_
    have hV : shapeV (n + 1) (((xs.map cv).take hi).drop lo) level = shR xs n lo hi level (scanL level (((xs.map cv).take hi).drop lo) 0 (-1)) := by
      have e0 : ∀ o, rootedV (n + 1) (((xs.map cv).take hi).drop lo) level = o → shapeV (n + 1) (((xs.map cv).take hi).drop lo) level = match o with | some t => (TP.hgt t : Int) | none => -1 := by
        intro o h; unfold shapeV; rw [h]
      rw [e0 _ (by simp only [rootedV]; rw [if_neg (by omega), if_neg c1])]
      cases hs : scanL level (((xs.map cv).take hi).drop lo) 0 (-1) with
      | none => rfl
      | some root =>
        simp only [shR]
        by_cases hr : root < 0
        · rw [if_pos hr, if_pos hr]
        · rw [if_neg hr, if_neg hr]
          have hle := (scanL_le level _ 0 (-1) (by omega) (by omega) root hs).2
          rw [hlen] at hle
          have e1 : (((xs.map cv).take hi).drop lo).take root.toNat = ((xs.map cv).take (lo + root.toNat)).drop lo := by
            rw [List.take_drop, List.take_take]; congr 2; omega
          have e2 : (((xs.map cv).take hi).drop lo).drop (root.toNat + 1) = ((xs.map cv).take hi).drop (lo + root.toNat + 1) := by
            rw [List.drop_drop]; congr 1
          rw [e1, e2]
          unfold shapeV
          cases hl : rootedV n (((xs.map cv).take (lo + root.toNat)).drop lo) (level + 1) with
          | none => simp
          | some l =>
            cases hr2 : rootedV n (((xs.map cv).take hi).drop (lo + root.toNat + 1)) (level + 1) with
            | none => simp
            | some r =>
              simp only
              have k1 : ¬ ((TP.hgt l : Int) < 0) := by omega
              have k2 : ¬ ((TP.hgt r : Int) < 0) := by omega
              rw [if_neg k1, if_neg k2]
              by_cases hb : TP.hgt l ≤ TP.hgt r + 1 ∧ TP.hgt r ≤ TP.hgt l + 1
              · have hb' : (TP.hgt l : Int) ≤ TP.hgt r + 1 ∧ (TP.hgt r : Int) ≤ TP.hgt l + 1 := by omega
                rw [if_pos hb, if_pos hb']
                simp only [TP.hgt]
                split <;> omega
              · have hb' : ¬ ((TP.hgt l : Int) ≤ TP.hgt r + 1 ∧ (TP.hgt r : Int) ≤ TP.hgt l + 1) := by omega
                rw [if_neg hb, if_neg hb']
    rw [hV]
    generalize hR : scanL level (((xs.map cv).take hi).drop lo) 0 (-1) = R
    have hbound : ∀ root, R = some root → root < ((hi - lo : Nat) : Int) ∧ -1 ≤ root := by
      intro root h
      rw [h] at hR
      have := scanL_le level _ 0 (-1) (by omega) (by omega) root hR
      rw [hlen] at this; omega
    have main : ∀ (d i : Nat) (rel : Int), i + d = hi → lo ≤ i → -1 ≤ rel → rel < ((i - lo : Nat) : Int) → scanL level (((xs.map cv).take hi).drop i) (i - lo) rel = R →
        Ev (fun k => spec_l2Shape.l0 k xs (lo : Int) (hi : Int) level (if rel < 0 then -1 else (lo : Int) + rel) (i : Int)) (shR xs n lo hi level R) := by
      intro d
      induction d with
      | zero =>
        intro i rel hi' hlo hr0 hr1 hsc
        obtain rfl : i = hi := by omega
        have e : ((xs.map cv).take i).drop i = [] := List.drop_eq_nil_of_le (by rw [List.length_take]; omega)
        rw [e] at hsc
        simp only [scanL] at hsc
        subst hsc
        simp only [shR]
        by_cases hneg : rel < 0
        · rw [if_pos hneg, if_pos hneg]
          refine ev_now fun k => ?_
          simp only [spec_l2Shape.l0]
          rw [if_neg (by omega), if_pos (by omega)]
        · rw [if_neg hneg]
          obtain ⟨ρ, rfl⟩ : ∃ ρ : Nat, rel = ρ := ⟨rel.toNat, by omega⟩
          simp only [Int.toNat_natCast]
          refine Ev.step (fun k => by simp only [spec_l2Shape.l0]; rw [if_neg (by omega), if_neg (by omega)]) ?_
          have hl := ih lo (lo + ρ) (level + 1) (by omega) (by omega) (by omega) (by omega) (by omega)
          have hr := ih (lo + ρ + 1) i (level + 1) (by omega) (by omega) (by omega) (by omega) (by omega)
          have bl := shapeV_le n (((xs.map cv).take (lo + ρ)).drop lo) (level + 1)
          have br := shapeV_le n (((xs.map cv).take i).drop (lo + ρ + 1)) (level + 1)
          simp only [List.length_drop, List.length_take, List.length_map] at bl br
          generalize shapeV n (((xs.map cv).take (lo + ρ)).drop lo) (level + 1) = a at hl bl
          generalize shapeV n (((xs.map cv).take i).drop (lo + ρ + 1)) (level + 1) = b at hr br
          refine Ev.congr (f := fun k => (spec_l2Shape.f k xs (lo : Int) ((lo + ρ : Nat) : Int) (level + 1)).bind fun t108 => (if t108 < 0 then (some (-1)) else ((spec_l2Shape.f k xs ((lo + ρ + 1 : Nat) : Int) (i : Int) (level + 1)).bind fun t109 => (if t109 < 0 then (spec_l2Shape.j1 k t108 t109 true) else (if (wrap64 (t108 - t109)) > 1 then (spec_l2Shape.j1 k t108 t109 true) else (spec_l2Shape.j1 k t108 t109 (decide ((wrap64 (t109 - t108)) > 1)))))))) (fun k => by
            rw [w64 (x := level + 1) (by omega), w64 (x := (lo : Int) + (ρ : Int) + 1) (by omega)]; rfl) ?_
          refine Ev.bind hl ?_
          by_cases ca : a < 0
          · rw [if_pos ca]; exact ev_const fun k => if_pos ca
          · rw [if_neg ca]
            refine Ev.congr (fun k => if_neg ca) ?_
            refine Ev.bind hr ?_
            have J : ∀ t, Ev (fun k => spec_l2Shape.j1 k a b t) (if t = true then -1 else if b > a then b + 1 else a + 1) := by
              intro t
              refine ev_now fun k => ?_
              simp only [spec_l2Shape.j1]
              rw [w64 (by omega), w64 (by omega)]
              split
              · rfl
              · split <;> rfl
            by_cases cb : b < 0
            · rw [if_pos cb]
              have := J true
              rw [if_pos rfl] at this
              exact Ev.congr (fun k => if_pos cb) this
            · rw [if_neg cb]
              refine Ev.congr (fun k => if_neg cb) ?_
              by_cases cd : a - b > 1
              · have nb : ¬ (a ≤ b + 1 ∧ b ≤ a + 1) := by omega
                rw [if_neg nb]
                have := J true
                rw [if_pos rfl] at this
                exact Ev.congr (fun k => if_pos (by rw [w64 (by omega)]; exact cd)) this
              · refine Ev.congr (fun k => by rw [if_neg (by rw [w64 (by omega)]; exact cd), w64 (x := b - a) (by omega)]) ?_
                by_cases ce : b - a > 1
                · have nb : ¬ (a ≤ b + 1 ∧ b ≤ a + 1) := by omega
                  rw [if_neg nb]
                  have := J (decide (b - a > 1))
                  rw [if_pos (decide_eq_true ce)] at this
                  exact this
                · have nb : a ≤ b + 1 ∧ b ≤ a + 1 := by omega
                  rw [if_pos nb]
                  have := J (decide (b - a > 1))
                  rw [if_neg (by rw [decide_eq_false ce]; simp)] at this
                  exact this
      | succ d ihd =>
        intro i rel hi' hlo hr0 hr1 hsc
        have hlt : i < hi := by omega
        rw [seg_cons xs i hi hlt h2] at hsc
        simp only [scanL] at hsc
        have hx1 : (cv (rd_T54 xs (i : Int))).f1 = (rd_T54 xs (i : Int)).f1 := rfl
        rw [hx1] at hsc
        generalize hy : (rd_T54 xs (i : Int)).f1 = y at hsc
        by_cases d1 : y < level
        · rw [if_pos (.inl d1)] at hsc
          subst hsc
          simp only [shR]
          refine ev_now fun k => ?_
          simp only [spec_l2Shape.l0, hy]
          rw [if_pos (by omega), if_pos (by omega), if_pos (by omega), if_pos d1]
        · by_cases d2 : y = level
          · by_cases d3 : 0 ≤ rel
            · rw [if_pos (.inr ⟨d2, d3⟩)] at hsc
              subst hsc
              simp only [shR]
              refine ev_now fun k => ?_
              simp only [spec_l2Shape.l0, hy]
              rw [if_pos (by omega), if_pos (by omega), if_pos (by omega), if_neg d1, if_pos d2, if_pos (by rw [if_neg (by omega)]; omega)]
            · rw [if_neg (by omega), if_pos d2] at hsc
              have h := ihd (i + 1) (((i - lo : Nat) : Int)) (by omega) (by omega) (by omega) (by omega) (by rw [← hsc]; congr 1; omega)
              refine Ev.step (fun k => ?_) h
              simp only [spec_l2Shape.l0, hy]
              rw [if_pos (by omega), if_pos (by omega), if_pos (by omega), if_neg d1, if_pos d2, if_neg (by rw [if_pos (by omega)]; omega), w64 (by omega), if_neg (by omega)]
              congr 1
              omega
          · rw [if_neg (by omega), if_neg d2] at hsc
            have h := ihd (i + 1) rel (by omega) (by omega) (by omega) (by omega) (by rw [← hsc]; congr 1; omega)
            refine Ev.step (fun k => ?_) h
            simp only [spec_l2Shape.l0, hy]
            rw [if_pos (by omega), if_pos (by omega), if_pos (by omega), if_neg d1, if_neg d2, w64 (by omega)]
            rfl
    have := main (hi - lo) lo (-1) (by omega) (by omega) (by omega) (by omega) (by rw [Nat.sub_self]; exact hR)
    rw [if_pos (by omega)] at this
    exact this
theorem valid_loop (xs : List S54) (hn : xs.length ≤ 8192) (d : Nat) : ∀ i : Nat, i + d = xs.length → AllGood ((xs.take i).map cv) →
    Ev (fun k => spec_L2Valid.l0 k xs (xs.length : Int) (i : Int) xs) (decide ((grownV (xs.map cv)).isSome = true)) := by
  induction d with
  | zero =>
    intro i hi hg
    obtain rfl : i = xs.length := by omega
    rw [List.take_length] at hg
    refine Ev.step (fun k => by simp only [spec_L2Valid.l0]; rw [if_neg (by omega)]) ?_
    refine Ev.bind (total_ev xs hn hg) ?_
    unfold grownV
    rw [List.length_map]
    by_cases cs : sumL (xs.map cv) ≤ 8192
    · rw [if_pos ⟨hn, hg, cs⟩]
      refine Ev.congr (fun k => if_pos cs) ?_
      have hsh := shape_ev xs hn (xs.length + 1) 0 xs.length 0 (by omega) (by omega) (by omega) (by omega) (by omega)
      rw [List.drop_zero, List.take_of_length_le (by rw [List.length_map]; omega)] at hsh
      refine Ev.bind hsh ?_
      refine ev_const fun _ => ?_
      unfold shapeV
      cases rootedV (xs.length + 1) (xs.map cv) 0 with
      | none => rfl
      | some t => simp
    · rw [if_neg (fun h => cs h.2.2)]
      exact ev_const fun k => by rw [if_neg cs]; rfl
  | succ d ih =>
    intro i hi hg
    have hlt : i < xs.length := by omega
    refine Ev.step (fun k => by simp only [spec_L2Valid.l0]; rw [if_pos (by omega), if_pos (by omega), if_pos (by omega), pieceOk_is, Option.bind_some, w64 (by omega)]) ?_
    have ex : rd_T54 xs (i : Int) = xs[i] := rdI xs i hlt
    rw [ex]
    by_cases gd : goodP (cv xs[i])
    · refine Ev.congr (fun k => if_pos (decide_eq_true gd)) ?_
      exact ih (i + 1) (by omega) (fun y hy => by
        rw [List.take_succ_eq_append_getElem hlt, List.map_append] at hy
        rcases List.mem_append.1 hy with hy | hy
        · exact hg y hy
        · simp only [List.map_cons, List.map_nil, List.mem_singleton] at hy
          rw [hy]; exact gd)
    · refine ev_const fun k => ?_
      rw [if_neg (by rw [decide_eq_false gd]; simp)]
      unfold grownV
      rw [if_neg (fun h => gd (h.2.1 (cv xs[i]) (List.mem_map.2 ⟨xs[i], List.getElem_mem hlt, rfl⟩)))]
      rfl
theorem valid_ev (xs : List S54) : Ev (fun k => spec_L2Valid.f k xs) (decide ((grownV (xs.map cv)).isSome = true)) := by
  unfold spec_L2Valid.f
  by_cases c : (xs.length : Int) > 8192
  · refine ev_const fun k => ?_
    rw [if_pos c]
    unfold grownV
    rw [if_neg (fun h => by have := h.1; rw [List.length_map] at this; omega)]
    rfl
  · refine Ev.congr (fun k => if_neg c) ?_
    exact valid_loop xs (by omega) xs.length 0 (by omega) (fun y hy => by simp at hy)
def locateB : List (Pc × Int) → Int → Int → Int → Int × Int × Int
  | [], _, rank, bf => (rank, 0, bf)
  | (v, _) :: r, line, rank, bf => if line ≤ v.brk then (rank, line, bf) else locateB r (line - v.brk) (rank + 1) (bf + v.len)
def sumP : List (Pc × Int) → Int | [] => 0 | x :: r => x.1.len + sumP r
def sumB : List (Pc × Int) → Int | [] => 0 | x :: r => x.1.brk + sumB r
theorem sumB_nonneg (xs : List (Pc × Int)) (h : ∀ x ∈ xs, 0 ≤ x.1.brk) : 0 ≤ sumB xs := by
  induction xs with
  | nil => simp [sumB]
  | cons x xs ih => have := h x (by simp); have := ih (fun y hy => h y (by simp [hy])); simp only [sumB]; omega
theorem locateB_app (xs ys : List (Pc × Int)) (h : ∀ x ∈ xs, 0 ≤ x.1.brk) : ∀ line rank bf : Int, 1 ≤ line →
    (line ≤ sumB xs → locateB (xs ++ ys) line rank bf = locateB xs line rank bf) ∧ (¬ line ≤ sumB xs → locateB (xs ++ ys) line rank bf = locateB ys (line - sumB xs) (rank + xs.length) (bf + sumP xs)) := by
  induction xs with
  | nil => intro line rank bf h0; exact ⟨fun h => by simp only [sumB] at h; omega, fun _ => by simp [sumB, sumP]⟩
  | cons x xs ih =>
    intro line rank bf h0
    obtain ⟨v, lv⟩ := x
    have hn := sumB_nonneg xs (fun y hy => h y (by simp [hy]))
    have hv : sumB ((v, lv) :: xs) = v.brk + sumB xs := rfl
    have hv' : sumP ((v, lv) :: xs) = v.len + sumP xs := rfl
    simp only [List.cons_append, locateB]
    by_cases c : line ≤ v.brk
    · exact ⟨fun _ => by rw [if_pos c, if_pos c], fun k => by omega⟩
    · obtain ⟨i1, i2⟩ := ih (fun y hy => h y (by simp [hy])) (line - v.brk) (rank + 1) (bf + v.len) (by omega)
      refine ⟨fun k => by rw [if_neg c, if_neg c]; exact i1 (by omega), fun k => ?_⟩
      rw [if_neg c, i2 (by omega)]
      simp only [List.length_cons]
      congr 1 <;> omega
theorem sumP_flat (t : Tree) : ∀ k, sumP (TP.flat t k) = rl t ∧ sumB (TP.flat t k) = kl t := by
  have app : ∀ xs ys, sumP (xs ++ ys) = sumP xs + sumP ys ∧ sumB (xs ++ ys) = sumB xs + sumB ys := by
    intro xs ys; induction xs with
    | nil => simp [sumP, sumB]
    | cons x xs ih => simp only [List.cons_append, sumP, sumB, ih.1, ih.2]; omega
  induction t with
  | nil => intro k; exact ⟨rfl, rfl⟩
  | node l v r ihl ihr => intro k; simp only [TP.flat, (app _ _).1, (app _ _).2, sumP, sumB, (ihl _).1, (ihl _).2, (ihr _).1, (ihr _).2, rl, kl]; omega
theorem flat_brk (t : Tree) (k : Int) (h : AllP t) : ∀ x ∈ TP.flat t k, 0 ≤ x.1.brk := by
  intro x hx
  have : x.1 ∈ TP.toL t := by rw [← TP.flat_toL t k]; exact List.mem_map.2 ⟨x, hx, rfl⟩
  have := h _ this; omega
theorem findBV_locate (t : Tree) : ∀ (line rank bf k : Int), AllP t → 1 ≤ line → line ≤ kl t → findBV t line rank bf = locateB (TP.flat t k) line rank bf := by
  induction t with
  | nil => intro line rank bf k _ h0 h1; simp only [kl] at h1; omega
  | node l v r ihl ihr =>
    intro line rank bf k hp h0 h1
    have hl : AllP l := fun x hx => hp x (by simp [TP.toL, hx])
    have hr : AllP r := fun x hx => hp x (by simp [TP.toL, hx])
    simp only [kl] at h1
    simp only [findBV, TP.flat]
    obtain ⟨a1, a2⟩ := locateB_app (TP.flat l (k + 1)) ((v, k) :: TP.flat r (k + 1)) (flat_brk l _ hl) line rank bf h0
    rw [(sumP_flat l _).2] at a1 a2
    rw [(sumP_flat l _).1] at a2
    by_cases c1 : line ≤ kl l
    · rw [if_pos c1, a1 c1, ihl _ _ _ (k + 1) hl h0 c1]
    · rw [if_neg c1, a2 c1]
      simp only [locateB, TP.flat_length]
      by_cases c2 : line ≤ kl l + v.brk
      · rw [if_pos c2, if_pos (by omega)]
      · rw [if_neg c2, if_neg (by omega), ihr _ _ _ (k + 1) hr (by omega) (by omega)]
        congr 1
        omega
def sumK : List It → Int | [] => 0 | x :: xs => x.f0.f2 + sumK xs
theorem sumK_app (xs ys : List It) : sumK (xs ++ ys) = sumK xs + sumK ys := by
  induction xs with
  | nil => simp [sumK]
  | cons x xs ih => simp only [List.cons_append, sumK, ih]; omega
theorem sumK_bound (xs : List It) (h : AllGood xs) : 0 ≤ sumK xs ∧ sumK xs ≤ sumL xs := by
  induction xs with
  | nil => simp [sumK, sumL]
  | cons x xs ih =>
    have h1 := h x (by simp)
    have h2 := ih (fun y hy => h y (by simp [hy]))
    unfold goodP at h1
    simp only [sumK, sumL]; omega
theorem sumK_map (xs : List It) : sumK xs = ((xs.map pcOf).map Pc.brk).sum := by
  induction xs with
  | nil => rfl
  | cons x xs ih => simp only [sumK, List.map_cons, List.sum_cons, ih]; rfl
theorem inner_ev (xs : List S54) (line acc : Int) (j : Nat) (f0 f1 f2 lv : Int) (R : Int × Int × Int × Int) (ha : 0 ≤ acc ∧ acc ≤ 100000) (hf : 0 ≤ f2 ∧ f2 ≤ 8192) (hj : j < xs.length) (hn : xs.length ≤ 8192) (hg : AllGood (xs.map cv))
    (h1 : acc < line → line ≤ acc + f2 → R = ((j : Int), line - acc, sumL ((xs.take j).map cv), 0))
    (h2 : ¬ (acc < line ∧ line ≤ acc + f2) → Ev (fun k => spec_TreeFindLine.l0 k line (acc + f2) xs (xs.length : Int) ((j + 1 : Nat) : Int) xs) R) (d : Nat) :
    ∀ w : Int, 0 ≤ w → w + d = f2 → (line ≤ acc ∨ acc + w < line) → Ev (fun k => spec_TreeFindLine.l1 k line (acc + w) (j : Int) (w + 1) xs (xs.length : Int) (j : Int) xs f0 f1 f2 lv) R := by
  induction d with
  | zero =>
    intro w h0 hw hc
    refine Ev.step (fun k => by simp only [spec_TreeFindLine.l1]; rw [if_neg (by omega), w64 (by omega)]) ?_
    have := h2 (by omega)
    have e : w = f2 := by omega
    rw [e]; exact this
  | succ d ih =>
    intro w h0 hw hc
    by_cases c : acc + w + 1 = line
    · rw [h1 (by omega) (by omega)]
      refine Ev.step (fun k => by simp only [spec_TreeFindLine.l1]; rw [if_pos (by omega), w64 (by omega), if_pos c, if_pos (by omega), if_pos (by omega)]) ?_
      have ht := total_ev (xs.take j) (by rw [List.length_take]; omega) (fun y hy => hg y (by
        obtain ⟨z, hz, rfl⟩ := List.mem_map.1 hy
        exact List.mem_map.2 ⟨z, List.mem_of_mem_take hz, rfl⟩))
      rw [Int.toNat_natCast]
      refine Ev.bind ht (ev_const fun _ => ?_)
      congr 3; omega
    · refine Ev.step (fun k => by simp only [spec_TreeFindLine.l1]; rw [if_pos (by omega), w64 (by omega), if_neg c, w64 (by omega)]) ?_
      have := ih (w + 1) (by omega) (by omega) (by omega)
      rw [show acc + (w + 1) = acc + w + 1 by omega] at this
      exact this
theorem outer_ev (xs : List S54) (line : Int) (hn : xs.length ≤ 8192) (hg : AllGood (xs.map cv)) (hs : sumL (xs.map cv) ≤ 8192) (d : Nat) : ∀ j : Nat, j + d = xs.length → (line < 1 ∨ sumK ((xs.take j).map cv) < line) →
    Ev (fun k => spec_TreeFindLine.l0 k line (sumK ((xs.take j).map cv)) xs (xs.length : Int) (j : Int) xs)
      (if 1 ≤ line ∧ line ≤ sumK (xs.map cv) then ((locateB (((xs.drop j).map cv).map itv) (line - sumK ((xs.take j).map cv)) j (sumL ((xs.take j).map cv))).1, (locateB (((xs.drop j).map cv).map itv) (line - sumK ((xs.take j).map cv)) j (sumL ((xs.take j).map cv))).2.1, (locateB (((xs.drop j).map cv).map itv) (line - sumK ((xs.take j).map cv)) j (sumL ((xs.take j).map cv))).2.2, 0) else (0, 0, 0, 3)) := by
  induction d with
  | zero =>
    intro j hj hc
    obtain rfl : j = xs.length := by omega
    rw [List.take_length] at hc ⊢
    rw [if_neg (by omega)]
    exact ev_now fun k => by simp only [spec_TreeFindLine.l0]; rw [if_neg (by omega)]
  | succ d ih =>
    intro j hj hc
    have hlt : j < xs.length := by omega
    have sub : ∀ m, AllGood ((xs.take m).map cv) := fun m y hy => hg y (by
      obtain ⟨z, hz, rfl⟩ := List.mem_map.1 hy
      exact List.mem_map.2 ⟨z, List.mem_of_mem_take hz, rfl⟩)
    have hb := sumK_bound ((xs.take j).map cv) (sub j)
    have hx := hg (cv xs[j]) (List.mem_map.2 ⟨xs[j], List.getElem_mem hlt, rfl⟩)
    unfold goodP at hx
    simp only [cv] at hx
    have e : sumK ((xs.take (j + 1)).map cv) = sumK ((xs.take j).map cv) + xs[j].f0.f2 := by
      rw [List.take_succ_eq_append_getElem hlt, List.map_append, sumK_app]; simp [sumK, cv]
    have e' : sumL ((xs.take (j + 1)).map cv) = sumL ((xs.take j).map cv) + xs[j].f0.f1 := by
      rw [List.take_succ_eq_append_getElem hlt, List.map_append, sumL_app]; simp [sumL, cv]
    have ed : xs.drop j = xs[j] :: xs.drop (j + 1) := List.drop_eq_getElem_cons hlt
    have good2 : AllGood ((xs.drop (j + 1)).map cv) := fun y hy => hg y (by
      obtain ⟨z, hz, rfl⟩ := List.mem_map.1 hy
      exact List.mem_map.2 ⟨z, List.mem_of_mem_drop hz, rfl⟩)
    have e0 : xs.map cv = (xs.take j).map cv ++ (cv xs[j] :: (xs.drop (j + 1)).map cv) := by
      rw [← List.map_cons, ← ed, ← List.map_append, List.take_append_drop]
    have htot : sumK (xs.map cv) = sumK ((xs.take j).map cv) + (xs[j].f0.f2 + sumK ((xs.drop (j + 1)).map cv)) := by rw [e0, sumK_app]; rfl
    have htot' : sumL (xs.map cv) = sumL ((xs.take j).map cv) + (xs[j].f0.f1 + sumL ((xs.drop (j + 1)).map cv)) := by rw [e0, sumL_app]; rfl
    have hrest := sumK_bound _ good2
    have hb2 := sumL_bound _ (sub j)
    have hrest2 := sumL_bound _ good2
    refine Ev.step (fun k => by simp only [spec_TreeFindLine.l0]; rw [if_pos (by omega), if_pos (by omega), if_pos (by omega), rdI xs j hlt]) ?_
    have := inner_ev xs line (sumK ((xs.take j).map cv)) j xs[j].f0.f0 xs[j].f0.f1 xs[j].f0.f2 xs[j].f1
      (if 1 ≤ line ∧ line ≤ sumK (xs.map cv) then ((locateB (((xs.drop j).map cv).map itv) (line - sumK ((xs.take j).map cv)) j (sumL ((xs.take j).map cv))).1, (locateB (((xs.drop j).map cv).map itv) (line - sumK ((xs.take j).map cv)) j (sumL ((xs.take j).map cv))).2.1, (locateB (((xs.drop j).map cv).map itv) (line - sumK ((xs.take j).map cv)) j (sumL ((xs.take j).map cv))).2.2, 0) else (0, 0, 0, 3))
      (by omega) (by omega) hlt hn hg (fun g1 g2 => ?_) (fun g => ?_) xs[j].f0.f2.toNat 0 (by omega) (by omega) (by omega)
    · rw [show sumK ((xs.take j).map cv) + 0 = sumK ((xs.take j).map cv) by omega, show (0 : Int) + 1 = 1 by omega] at this
      exact this
    · rw [if_pos (by omega), ed]
      simp only [List.map_cons, itv, cv, pcOf, locateB]
      rw [if_pos (by omega)]
    · have h := ih (j + 1) (by omega) (by rw [e]; omega)
      rw [e, e'] at h
      by_cases ci : 1 ≤ line ∧ line ≤ sumK (xs.map cv)
      · rw [if_pos ci] at h ⊢
        rw [ed]
        simp only [List.map_cons, itv, cv, pcOf, locateB]
        rw [if_neg (by omega)]
        have e2 : line - sumK ((xs.take j).map cv) - xs[j].f0.f2 = line - (sumK ((xs.take j).map cv) + xs[j].f0.f2) := by omega
        rw [e2]
        have e3 : ((j + 1 : Nat) : Int) = (j : Int) + 1 := by omega
        rw [e3] at h
        exact h
      · rw [if_neg ci] at h ⊢
        exact h
theorem spec_ev (xs : List S54) (line : Int) : Ev (fun k => spec_TreeFindLine.f k xs line) (treeFindLineV (xs.map cv) line) := by
  unfold spec_TreeFindLine.f treeFindLineV
  refine Ev.bind (valid_ev xs) ?_
  cases hV : grownV (xs.map cv) with
  | none => exact ev_const fun k => by simp
  | some t =>
    obtain ⟨h1, h2, h3, h4, h5, h6⟩ := grownV_toL hV
    obtain ⟨f1, f2, f3, f4⟩ := grownV_fine hV
    rw [List.length_map] at h4 f4
    have hap : AllP t := fun v hv => by
      rw [h1] at hv
      obtain ⟨x, hx, rfl⟩ := List.mem_map.1 hv
      have := h5 x hx
      unfold goodP at this
      simp only [pcOf]; omega
    have hk : kl t = sumK (xs.map cv) := by rw [(rl_toL t).2, h1, sumK_map]
    refine Ev.congr (fun k => if_pos (by simp)) ?_
    have h := outer_ev xs line h4 h5 h6 xs.length 0 (by omega) (by simp [sumK]; omega)
    simp only [List.take_zero, List.map_nil, sumK, sumL, List.drop_zero, Int.sub_zero] at h
    by_cases c : 1 ≤ line ∧ line ≤ kl t
    · rw [if_pos (by omega)] at h
      simp only
      rw [if_pos c]
      have e := findBV_locate t line 0 0 0 hap c.1 c.2
      rw [h3] at e
      rw [e]
      exact h
    · rw [if_neg (by omega)] at h
      simp only
      rw [if_neg c]
      exact h
theorem law (xs : List S128) (line : Int) (hm : xs.length ≤ 9223372036854775807) : ∃ k, laws_FnExactTreeFindLine.f k xs line = some true := by
  refine Ev.rounds (g := fun k => laws_FnExactTreeFindLine.f k xs line) ?_
  unfold laws_FnExactTreeFindLine.f
  by_cases hn : 1048576 < xs.length
  · exact ev_const fun k => by rw [szTree_big xs hn hm, Option.bind_some, if_pos (by omega)]
  obtain ⟨v, hv, hv0⟩ := szTree_is xs (by omega)
  have hs := spec_ev (xs.map tv) line
  have hi : impl_TreeFindLine.f (xs.map tv) line = some (treeFindLineV ((xs.map tv).map cv) line) := by unfold impl_TreeFindLine.f; rw [if_pos (by rw [List.length_map]; omega)]
  generalize treeFindLineV ((xs.map tv).map cv) line = R at hs hi
  obtain ⟨a, b, c, d⟩ := R
  refine Ev.bind (ev_const fun _ => hv) ?_
  refine Ev.congr (fun k => if_neg (by omega)) ?_
  refine Ev.bind (toTree_ev xs (by omega)) ?_
  refine Ev.bind hs ?_
  refine Ev.bind (toTree_ev xs (by omega)) ?_
  refine Ev.bind (ev_const fun _ => hi) ?_
  refine Ev.congr (fun k => by rw [if_pos rfl, if_pos rfl, if_pos rfl]) ?_
  refine Ev.step (fun k => by simp only [laws_FnExactTreeFindLine.j0]; rw [if_neg (by simp)]) ?_
  refine Ev.bind (toTree_ev xs (by omega)) ?_
  refine Ev.bind (eqTree_ev _ (by rw [List.length_map]; omega)) ?_
  exact ev_const fun k => if_pos rfl
end Go.Proofs.YtciabhncmdpeeaaDoor.PureFnExactTreeFindLine
