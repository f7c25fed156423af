/- Marks: pushed and pulled, walked. Conditions: the marks are good, the numbers are within the bounds. -/
import Derived.Test.YtefdjajmnkmbgaaDoorMk3
namespace Go.Proofs.YtefdjajmnkmbgaaDoor
open Go.RowKit Go.Sort Go.Proofs.YtefdjajmnkmbgaaDoorW.PrintWords Go.Proofs.YtefdjajmnkmbgaaDoorW.PrintLast Go.Proofs.YtefdjajmnkmbgaaDoorW.PrintMore Er
set_option linter.unusedSimpArgs false
set_option linter.unusedVariables false
/-- an element's cells in a row of our own -/
theorem R_el {w : World} {base g cap : Nat} {ok : Nat → Prop} {xs : List Mk} (h : Kd.R kM 53 w base ok (.slice (some ⟨g, 0, none⟩) xs.length cap) xs) (i : Nat) (hi : i < xs.length) :
    w.cell? ⟨g, i * 3, none⟩ = some (.int .i64 (xs.getD i default).f0) ∧ w.cell? ⟨g, i * 3 + 1, none⟩ = some (.int .i64 (xs.getD i default).f1) ∧ w.cell? ⟨g, i * 3 + 2, none⟩ = some (.int .i64 (xs.getD i default).f2) ∧ w.frozen? ⟨g, i * 3 + 1, none⟩ = false := by
  obtain ⟨-, -, -, -, cur, hg, hs, hr⟩ := R_parts h
  have h1 := hr.2 i xs[i] (List.getElem?_eq_getElem hi)
  have e : xs.getD i default = xs[i] := by rw [List.getD_eq_getElem?_getD, List.getElem?_eq_getElem hi]; rfl
  rw [e]
  have hc : ∀ c, c < 3 → w.cell? ⟨g, i * 3 + c, none⟩ = (mkL xs[i])[c]? := fun c hc => by
    rw [blk_cell hg, ← h1, List.getElem?_take, if_pos hc, List.getElem?_drop, List.getElem?_take, if_pos (by omega), Array.getElem?_toList]
  exact ⟨(hc 0 (by omega)).trans rfl, (hc 1 (by omega)).trans rfl, (hc 2 (by omega)).trans rfl, blk_frozen hg _⟩
/-- an offset stored into an element -/
theorem R_st {w : World} {base g cap : Nat} {ok : Nat → Prop} {xs : List Mk} (h : Kd.R kM 53 w base ok (.slice (some ⟨g, 0, none⟩) xs.length cap) xs) (i : Nat) (hi : i < xs.length) (z : Int) :
    Kd.R kM 53 (w.setCell ⟨g, i * 3 + 1, none⟩ (.int .i64 z)) base ok (.slice (some ⟨g, 0, none⟩) xs.length cap) (xs.set i { xs.getD i default with f1 := z }) := by
  obtain ⟨h0, hb, hc, hm, cur, hg, hs, hr⟩ := R_parts h
  have hl : (xs.set i { xs.getD i default with f1 := z }).length = xs.length := List.length_set
  have key := R_make (w := w.setCell ⟨g, i * 3 + 1, none⟩ (.int .i64 z)) (xs := xs.set i { xs.getD i default with f1 := z }) (cap := cap) (cur := cur.setIfInBounds (i * 3 + 1) (.int .i64 z)) h0 hb (by rw [hl]; exact hc) hm (blk_put hg (i * 3 + 1) (.int .i64 z) rfl) (by simp [hs]) ?_
  · rw [hl] at key; exact key
  · refine reps_flat ?_ fun t ht => ?_
    · rw [hl]; simp [hs]; omega
    · rw [hl] at ht
      have hk := flat_at hr t ht
      rw [List.getElem?_take, if_pos ht, Array.getElem?_toList] at hk
      rw [hl, List.getElem?_take, if_pos ht, Array.getElem?_toList, Array.getElem?_setIfInBounds]
      have hts : t < cur.size := by omega
      rw [get_flatK _ _ _ _ (by simp; exact ht)]
      rw [get_flatK _ _ _ _ (by simpa using ht)] at hk
      have hj : t / 3 < xs.length := by omega
      have ea : (xs.set i { xs.getD i default with f1 := z }).toArray[t / 3]! = if i = t / 3 then { xs.getD i default with f1 := z } else xs.toArray[t / 3]! := by
        rw [getElem!_pos (xs.set i { xs.getD i default with f1 := z }).toArray (t / 3) (by simpa using hj), getElem!_pos xs.toArray (t / 3) (by simpa using hj)]
        simp [List.getElem_set]
      rw [ea]
      have ex : i < xs.length → xs.toArray[i]! = xs.getD i default := fun h => by
        rw [getElem!_pos xs.toArray i (by simpa using h), List.getD_eq_getElem?_getD, List.getElem?_eq_getElem h]; simp
      by_cases c : i * 3 + 1 = t
      · rw [if_pos c, if_pos (by omega), if_pos (by omega)]
        have : t % 3 = 1 := by omega
        rw [this]; rfl
      · rw [if_neg c, hk]
        by_cases c2 : i = t / 3
        · rw [if_pos c2, ← c2, ex hi]
          have : t % 3 = 0 ∨ t % 3 = 2 := by omega
          rcases this with h | h <;> rw [h] <;> rfl
        · rw [if_neg c2]
/-- a mark behind what is put in -/
def mvI (off n : Int) (m : Mk) : Mk := if off < m.f1 ∨ m.f1 = off ∧ m.f2 = 1 then { m with f1 := m.f1 + n } else m
theorem mv_next (f : Mk → Mk) (xs : List Mk) (i : Nat) (hi : i < xs.length) : ((xs.take i).map f ++ xs.drop i).set i (f (xs.getD i default)) = (xs.take (i + 1)).map f ++ xs.drop (i + 1) := by
  have e : ((xs.take i).map f).length = i := by simp; omega
  rw [List.set_append_right _ _ (by omega), e, Nat.sub_self, List.drop_eq_getElem_cons hi, List.set_cons_zero, List.take_succ_eq_append_getElem hi, List.map_append, List.append_assoc, List.getD_eq_getElem?_getD, List.getElem?_eq_getElem hi]
  rfl
theorem mv_same (f : Mk → Mk) (xs : List Mk) (i : Nat) (hi : i < xs.length) (h : f (xs.getD i default) = xs.getD i default) : (xs.take i).map f ++ xs.drop i = (xs.take (i + 1)).map f ++ xs.drop (i + 1) := by
  rw [← mv_next f xs i hi, h]
  have e : ((xs.take i).map f).length = i := by simp; omega
  rw [List.set_append_right _ _ (by omega), e, Nat.sub_self, List.drop_eq_getElem_cons hi, List.set_cons_zero, List.getD_eq_getElem?_getD, List.getElem?_eq_getElem hi]
  rfl
theorem TB.set {w : World} {base tb g cap : Nat} {xs : List Mk} (h : TB w base tb (.slice (some ⟨g, 0, none⟩) xs.length cap) xs) (hgt : g ≠ tb) (i : Nat) (hi : i < xs.length) (z : Int) :
    TB (w.setCell ⟨g, i * 3 + 1, none⟩ (.int .i64 z)) base tb (.slice (some ⟨g, 0, none⟩) xs.length cap) (xs.set i { xs.getD i default with f1 := z }) :=
  ⟨h.lo, (Below.heap_setCell w ⟨g, i * 3 + 1, none⟩ _ tb (fun e => hgt e.symm)).trans h.blk, R_st h.row i hi z⟩
structure PushAt (w : World) (base tb : Nat) (v : Value) (xs : List Mk) (off n : Int) (k : Nat) (v14 : Value) (wr : World) : Prop where
  st : ∃ i : Nat, v14 = .int .i64 i ∧ i + k = xs.length ∧ TB wr base tb v ((xs.take i).map (mvI off n) ++ xs.drop i) ∧ ∀ m ∈ (xs.take i).map (mvI off n), m.f1 ≤ 8192
  bel : Below base w wr
/-- pushed: the marks moved and sorted, or an error of the code 10 -/
def PushPost (w : World) (base tb : Nat) (v : Value) (xs : List Mk) (off n : Int) (e : Ending) (w' : World) : Prop :=
  Below base w w' ∧ (((∀ m ∈ xs.map (mvI off n), m.f1 ≤ 8192) ∧ e = .returned .nilIface ∧ TPost w base tb v (xs.map (mvI off n)) w') ∨ ((∃ m ∈ xs.map (mvI off n), 8192 < m.f1) ∧ e = .returned (.iface 73 (.int .i64 10))))
theorem TB.slice {w : World} {base tb : Nat} {v : Value} {xs : List Mk} (h : TB w base tb v xs) (hp : 0 < xs.length) : ∃ g cap, v = .slice (some ⟨g, 0, none⟩) xs.length cap ∧ base ≤ g ∧ g ≠ tb ∧ Kd.R kM 53 w base (fun k => k ≠ tb) (.slice (some ⟨g, 0, none⟩) xs.length cap) xs := by
  obtain ⟨g, cap, e, hb, -⟩ := Kd.R_form h.row hp
  subst e
  exact ⟨g, cap, rfl, hb, h.row.1 g rfl, h.row⟩
set_option maxHeartbeats 8000000 in
set_option maxRecDepth 100000 in
theorem pushed_any (w : World) (base tb : Nat) (v : Value) (xs : List Mk) (off n : Int) (h : TB w base tb v xs) (hn : xs.length ≤ 1048576) (hg : ∀ m ∈ xs, 0 ≤ m.f1 ∧ m.f1 ≤ 8192) (hb : 0 ≤ n ∧ n ≤ 8192) :
    Calls Tryd.prog 58 #[.pointer (some ⟨tb, 0, none⟩), .int .i64 off, .int .i64 n] w (PushPost w base tb v xs off n) := by
  have q0 : w.cell? ⟨tb, 0, none⟩ = some v := (blk_cell h.blk 0).trans rfl
  obtain ⟨A, c, rfl⟩ := Kd.R_slice h.row
  have HG := Aside0.mk hg
  have AT : Aside0 (PushAt w base tb (.slice A xs.length c) xs off n xs.length (.int .i64 0) w) := ⟨⟨⟨0, rfl, by omega, by simpa using h, by simp⟩, Below.refl _ _⟩⟩
  clear h hg
  obtain ⟨b1, b2⟩ := hb
  go_enter Tryd.func58, Tryd.ntmps58
  go_wp2
  go_loopg [14] xs.length (fun k v14 wr => PushAt w base tb (.slice A xs.length c) xs off n k v14 wr)
  case atStart => exact AT.out
  case round =>
    clear AT q0
    obtain ⟨⟨i, rfl, hk, hT, hle⟩, hB⟩ := hrel
    have HK := Aside0.mk hk
    have HB := Aside0.mk hB
    have HT := Aside0.mk hT
    have HLE := Aside0.mk hle
    have q0 : wr.cell? ⟨tb, 0, none⟩ = some (.slice A xs.length c) := (blk_cell hT.blk 0).trans rfl
    have hlen : ((xs.take i).map (mvI off n) ++ xs.drop i).length = xs.length := by simp; omega
    have HLEN := Aside0.mk hlen
    by_cases ci : i < xs.length
    · obtain ⟨g, cap, e, hbg, hgt, hR⟩ := hT.slice (by omega)
      rw [hlen] at e
      cases e
      have hR' := R_el hR i (by omega)
      have ex : (((xs.take i).map (mvI off n) ++ xs.drop i).getD i default) = xs.getD i default := by
        rw [List.getD_eq_getElem?_getD, List.getElem?_append_right (by simp; omega), List.getElem?_drop, List.getD_eq_getElem?_getD]
        congr 2; simp; omega
      rw [ex] at hR'
      obtain ⟨-, hx1, hx2, hf1⟩ := hR'
      have hgx := HG.out (xs.getD i default) (by rw [List.getD_eq_getElem?_getD, List.getElem?_eq_getElem ci]; exact List.getElem_mem ci)
      have EX := Aside0.mk ex
      have HRI := Aside0.mk hR
      clear ex hR hT hle hB hk hlen
      obtain ⟨x, HX⟩ : ∃ x, Aside0 (x = xs.getD i default) := ⟨_, ⟨rfl⟩⟩
      rw [← HX.out] at hx1 hx2 hgx EX
      obtain ⟨hg1, hg2⟩ := hgx
      have g8 : ¬ 8192 < x.f1 := by omega
      by_cases c1 : off < x.f1
      · have C1 := Aside0.mk c1
        have c1b : decide (off < x.f1) = true := decide_eq_true c1
        clear c1
        go_wp2
        · have hz : 8192 < x.f1 + n := by first | assumption | (have h8 : 8192 < wrap64 (x.f1 + n) := (by assumption); rw [w64 (by omega)] at h8; exact h8) | omega
          go_ret
          refine ⟨HB.out.setCell (p := ⟨g, i * 3 + 1, none⟩) hbg _, .inr ⟨⟨mvI off n x, List.mem_map.2 ⟨x, by rw [HX.out, List.getD_eq_getElem?_getD, List.getElem?_eq_getElem ci]; exact List.getElem_mem ci, rfl⟩, ?_⟩, rfl⟩⟩
          unfold mvI; rw [if_pos (.inl C1.out)]; exact hz
        · have hz : ¬ 8192 < x.f1 + n := by first | assumption | (have h8 : ¬ 8192 < wrap64 (x.f1 + n) := (by assumption); rw [w64 (by omega)] at h8; exact h8) | omega
          go_roundg (xs.length - (i + 1))
          case measure => have := HK.out; omega
          case rel =>
            have em : mvI off n (xs.getD i default) = { x with f1 := x.f1 + n } := by rw [← HX.out]; unfold mvI; rw [if_pos (.inl C1.out)]
            have hw : wrap64 (x.f1 + n) = x.f1 + n := w64 (by omega)
            have hT2 := TB.set (by rw [HLEN.out]; exact HT.out) hgt i (by rw [HLEN.out]; exact ci) (x.f1 + n)
            rw [EX.out, ← em, mv_next _ _ _ ci, HLEN.out] at hT2
            refine ⟨⟨i + 1, by go_num, by have := HK.out; omega, by first | exact hT2 | (rw [hw]; exact hT2), ?_⟩, HB.out.setCell (p := ⟨g, i * 3 + 1, none⟩) hbg _⟩
            rw [List.take_succ_eq_append_getElem ci, List.map_append]
            intro m hm
            rcases List.mem_append.1 hm with hm | hm
            · exact HLE.out m hm
            · have e2 : xs[i] = xs.getD i default := by rw [List.getD_eq_getElem?_getD, List.getElem?_eq_getElem ci]; rfl
              rw [List.map_singleton, List.mem_singleton, e2, em] at hm
              subst hm
              show x.f1 + n ≤ 8192
              omega
      · have c1b : decide (off < x.f1) = false := decide_eq_false c1
        have C1 := Aside0.mk c1
        clear c1
        by_cases c2 : x.f1 = off
        · have C2 := Aside0.mk c2
          have c2b : (x.f1 == off) = true := beq_iff_eq.mpr c2
          clear c2
          by_cases c3 : x.f2 = 1
          · have C3 := Aside0.mk c3
            have c3b : (x.f2 == 1) = true := beq_iff_eq.mpr c3
            clear c3
            go_wp2
            · have hz : 8192 < x.f1 + n := by first | assumption | (have h8 : 8192 < wrap64 (x.f1 + n) := (by assumption); rw [w64 (by omega)] at h8; exact h8) | omega
              go_ret
              refine ⟨HB.out.setCell (p := ⟨g, i * 3 + 1, none⟩) hbg _, .inr ⟨⟨mvI off n x, List.mem_map.2 ⟨x, by rw [HX.out, List.getD_eq_getElem?_getD, List.getElem?_eq_getElem ci]; exact List.getElem_mem ci, rfl⟩, ?_⟩, rfl⟩⟩
              unfold mvI; rw [if_pos (.inr ⟨C2.out, C3.out⟩)]; exact hz
            · have hz : ¬ 8192 < x.f1 + n := by first | assumption | (have h8 : ¬ 8192 < wrap64 (x.f1 + n) := (by assumption); rw [w64 (by omega)] at h8; exact h8) | omega
              go_roundg (xs.length - (i + 1))
              case measure => have := HK.out; omega
              case rel =>
                have em : mvI off n (xs.getD i default) = { x with f1 := x.f1 + n } := by rw [← HX.out]; unfold mvI; rw [if_pos (.inr ⟨C2.out, C3.out⟩)]
                have hw : wrap64 (x.f1 + n) = x.f1 + n := w64 (by omega)
                have hT2 := TB.set (by rw [HLEN.out]; exact HT.out) hgt i (by rw [HLEN.out]; exact ci) (x.f1 + n)
                rw [EX.out, ← em, mv_next _ _ _ ci, HLEN.out] at hT2
                refine ⟨⟨i + 1, by go_num, by have := HK.out; omega, by first | exact hT2 | (rw [hw]; exact hT2), ?_⟩, HB.out.setCell (p := ⟨g, i * 3 + 1, none⟩) hbg _⟩
                rw [List.take_succ_eq_append_getElem ci, List.map_append]
                intro m hm
                rcases List.mem_append.1 hm with hm | hm
                · exact HLE.out m hm
                · have e2 : xs[i] = xs.getD i default := by rw [List.getD_eq_getElem?_getD, List.getElem?_eq_getElem ci]; rfl
                  rw [List.map_singleton, List.mem_singleton, e2, em] at hm
                  subst hm
                  show x.f1 + n ≤ 8192
                  omega
          · have C3 := Aside0.mk c3
            have c3b : (x.f2 == 1) = false := beq_eq_false_iff_ne.mpr c3
            clear c3
            go_wp2
            go_roundg (xs.length - (i + 1))
            case measure => have := HK.out; omega
            case rel =>
              have em : mvI off n (xs.getD i default) = x := by rw [← HX.out]; unfold mvI; rw [if_neg (fun h => by have q1 := C1.out; have q3 := C3.out; omega)]
              refine ⟨⟨i + 1, by go_num, by have := HK.out; omega, by rw [← mv_same _ _ _ ci (by rw [em, HX.out])]; exact HT.out, ?_⟩, HB.out⟩
              rw [List.take_succ_eq_append_getElem ci, List.map_append]
              intro m hm
              rcases List.mem_append.1 hm with hm | hm
              · exact HLE.out m hm
              · have e2 : xs[i] = xs.getD i default := by rw [List.getD_eq_getElem?_getD, List.getElem?_eq_getElem ci]; rfl
                rw [List.map_singleton, List.mem_singleton, e2, em] at hm
                subst hm
                exact hg2
        · have C2 := Aside0.mk c2
          have c2b : (x.f1 == off) = false := beq_eq_false_iff_ne.mpr c2
          clear c2
          go_wp2
          go_roundg (xs.length - (i + 1))
          case measure => have := HK.out; omega
          case rel =>
            have em : mvI off n (xs.getD i default) = x := by rw [← HX.out]; unfold mvI; rw [if_neg (fun h => by have q1 := C1.out; have q2 := C2.out; omega)]
            refine ⟨⟨i + 1, by go_num, by have := HK.out; omega, by rw [← mv_same _ _ _ ci (by rw [em, HX.out])]; exact HT.out, ?_⟩, HB.out⟩
            rw [List.take_succ_eq_append_getElem ci, List.map_append]
            intro m hm
            rcases List.mem_append.1 hm with hm | hm
            · exact HLE.out m hm
            · have e2 : xs[i] = xs.getD i default := by rw [List.getD_eq_getElem?_getD, List.getElem?_eq_getElem ci]; rfl
              rw [List.map_singleton, List.mem_singleton, e2, em] at hm
              subst hm
              exact hg2
    · have hil : i = xs.length := by have := HK.out; omega
      subst hil
      clear hT hle hB hk hlen
      have hT := HT.out
      have hle := HLE.out
      rw [List.take_length, List.drop_length, List.append_nil] at hT
      rw [List.take_length] at hle
      have HT2 := Aside0.mk hT
      have HLE2 := Aside0.mk hle
      clear hT hle
      go_wp2_with fail
      refine (tsort_any wr base tb _ _ HT2.out (by rw [List.length_map]; exact hn)).mono ?_
      rintro e w2 ⟨rfl, ys, hT3, hp, hs, hb3⟩
      go_wp2
      go_ret
      exact ⟨HB.out.trans hb3, .inl ⟨HLE2.out, rfl, ys, hT3, hp, hs, HB.out.trans hb3⟩⟩
/-- a mark behind what is taken out -/
def mvD (lo hi : Int) (m : Mk) : Mk := if hi < m.f1 then { m with f1 := m.f1 - (hi - lo) } else if lo ≤ m.f1 then { m with f1 := lo } else m
structure PullAt (w : World) (base tb : Nat) (v : Value) (xs : List Mk) (lo hi : Int) (k : Nat) (v13 : Value) (wr : World) : Prop where
  st : ∃ i : Nat, v13 = .int .i64 i ∧ i + k = xs.length ∧ TB wr base tb v ((xs.take i).map (mvD lo hi) ++ xs.drop i)
  bel : Below base w wr
set_option maxHeartbeats 8000000 in
set_option maxRecDepth 100000 in
theorem pulled_any (w : World) (base tb : Nat) (v : Value) (xs : List Mk) (lo hi : Int) (h : TB w base tb v xs) (hn : xs.length ≤ 1048576) (hg : ∀ m ∈ xs, 0 ≤ m.f1 ∧ m.f1 ≤ 8192) (hb : 0 ≤ lo ∧ lo ≤ hi ∧ hi ≤ 8192) :
    Calls Tryd.prog 60 #[.pointer (some ⟨tb, 0, none⟩), .int .i64 lo, .int .i64 hi] w fun e w' => e = .returned (.tuple #[]) ∧ TPost w base tb v (xs.map (mvD lo hi)) w' := by
  have q0 : w.cell? ⟨tb, 0, none⟩ = some v := (blk_cell h.blk 0).trans rfl
  obtain ⟨A, c, rfl⟩ := Kd.R_slice h.row
  have HG := Aside0.mk hg
  have AT : Aside0 (PullAt w base tb (.slice A xs.length c) xs lo hi xs.length (.int .i64 0) w) := ⟨⟨⟨0, rfl, by omega, by simpa using h⟩, Below.refl _ _⟩⟩
  clear h hg
  obtain ⟨b1, b2, b3⟩ := hb
  go_enter Tryd.func60, Tryd.ntmps60
  go_wp2
  go_loopg [13] xs.length (fun k v13 wr => PullAt w base tb (.slice A xs.length c) xs lo hi k v13 wr)
  case atStart => exact AT.out
  case round =>
    clear AT q0
    obtain ⟨⟨i, rfl, hk, hT⟩, hB⟩ := hrel
    have HK := Aside0.mk hk
    have HB := Aside0.mk hB
    have HT := Aside0.mk hT
    have q0 : wr.cell? ⟨tb, 0, none⟩ = some (.slice A xs.length c) := (blk_cell hT.blk 0).trans rfl
    have hlen : ((xs.take i).map (mvD lo hi) ++ xs.drop i).length = xs.length := by simp; omega
    have HLEN := Aside0.mk hlen
    by_cases ci : i < xs.length
    · obtain ⟨g, cap, e, hbg, hgt, hR⟩ := hT.slice (by omega)
      rw [hlen] at e
      cases e
      have hR' := R_el hR i (by omega)
      have ex : (((xs.take i).map (mvD lo hi) ++ xs.drop i).getD i default) = xs.getD i default := by
        rw [List.getD_eq_getElem?_getD, List.getElem?_append_right (by simp; omega), List.getElem?_drop, List.getD_eq_getElem?_getD]
        congr 2; simp; omega
      rw [ex] at hR'
      obtain ⟨-, hx1, hx2, hf1⟩ := hR'
      have hgx := HG.out (xs.getD i default) (by rw [List.getD_eq_getElem?_getD, List.getElem?_eq_getElem ci]; exact List.getElem_mem ci)
      have EX := Aside0.mk ex
      clear ex hR hT hB hk hlen
      obtain ⟨x, HX⟩ : ∃ x, Aside0 (x = xs.getD i default) := ⟨_, ⟨rfl⟩⟩
      rw [← HX.out] at hx1 hx2 hgx EX
      obtain ⟨hg1, hg2⟩ := hgx
      have s1 : IntKind.i64.wrap (hi - lo) = hi - lo := by rw [IntKind.wrap_i64]; omega
      have s2 : IntKind.i64.wrap (x.f1 - (hi - lo)) = x.f1 - (hi - lo) := by rw [IntKind.wrap_i64]; omega
      have W1 := Aside0.mk (show wrap64 (hi - lo) = hi - lo from w64 (by omega))
      have W2 := Aside0.mk (show wrap64 (x.f1 - (hi - lo)) = x.f1 - (hi - lo) from w64 (by omega))
      by_cases c1 : hi < x.f1
      · have C1 := Aside0.mk c1
        have c1b : decide (hi < x.f1) = true := decide_eq_true c1
        clear c1
        go_wp2
        go_roundg (xs.length - (i + 1))
        case measure => have := HK.out; omega
        case rel =>
          have em : mvD lo hi (xs.getD i default) = { x with f1 := x.f1 - (hi - lo) } := by rw [← HX.out]; unfold mvD; rw [if_pos C1.out]
          have hT2 := TB.set (by rw [HLEN.out]; exact HT.out) hgt i (by rw [HLEN.out]; exact ci) (x.f1 - (hi - lo))
          rw [EX.out, ← em, mv_next _ _ _ ci, HLEN.out] at hT2
          exact ⟨⟨i + 1, by go_num, by have := HK.out; omega, by first | exact hT2 | (rw [W1.out, W2.out]; exact hT2)⟩, HB.out.setCell (p := ⟨g, i * 3 + 1, none⟩) hbg _⟩
      · have c1b : decide (hi < x.f1) = false := decide_eq_false c1
        have C1 := Aside0.mk c1
        clear c1
        by_cases c2 : x.f1 ≥ lo
        · have C2 := Aside0.mk c2
          have c2b : decide (x.f1 ≥ lo) = true := decide_eq_true c2
          clear c2
          go_wp2
          go_roundg (xs.length - (i + 1))
          case measure => have := HK.out; omega
          case rel =>
            have em : mvD lo hi (xs.getD i default) = { x with f1 := lo } := by rw [← HX.out]; unfold mvD; rw [if_neg (by have := C1.out; omega), if_pos (by have := C2.out; omega)]
            have hT2 := TB.set (by rw [HLEN.out]; exact HT.out) hgt i (by rw [HLEN.out]; exact ci) (lo)
            rw [EX.out, ← em, mv_next _ _ _ ci, HLEN.out] at hT2
            exact ⟨⟨i + 1, by go_num, by have := HK.out; omega, by first | exact hT2 | (rw [W1.out, W2.out]; exact hT2)⟩, HB.out.setCell (p := ⟨g, i * 3 + 1, none⟩) hbg _⟩
        · have C2 := Aside0.mk c2
          have c2b : decide (x.f1 ≥ lo) = false := decide_eq_false c2
          clear c2
          go_wp2
          go_roundg (xs.length - (i + 1))
          case measure => have := HK.out; omega
          case rel =>
            have em : mvD lo hi (xs.getD i default) = x := by rw [← HX.out]; unfold mvD; rw [if_neg (by have := C1.out; omega), if_neg (by have := C2.out; omega)]
            exact ⟨⟨i + 1, by go_num, by have := HK.out; omega, by rw [← mv_same _ _ _ ci (by rw [em, HX.out])]; exact HT.out⟩, HB.out⟩
    · have hil : i = xs.length := by have := HK.out; omega
      subst hil
      clear hT hB hk hlen
      have hT := HT.out
      rw [List.take_length, List.drop_length, List.append_nil] at hT
      have HT2 := Aside0.mk hT
      clear hT
      go_wp2_with fail
      refine (tsort_any wr base tb _ _ HT2.out (by rw [List.length_map]; exact hn)).mono ?_
      rintro e w2 ⟨rfl, ys, hT3, hp, hs, hb3⟩
      go_wp2
      go_end0
      exact ⟨rfl, ys, hT3, hp, hs, HB.out.trans hb3⟩
end Go.Proofs.YtefdjajmnkmbgaaDoor
