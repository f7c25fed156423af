/- Gap buffers of runes: insert, walked. Conditions: the bounds; what is put in reads the same while only newer blocks change. -/
import Derived.Laws.CopyOwn
import Derived.Deep.RegionHeld3
import Derived.Deep.RegionLaw
import Derived.Test.YtamcacahjlaogaaDoorGp6
namespace Go.Proofs.YtamcacahjlaogaaDoor
open Go.RowKit Go.Proofs.YtamcacahjlaogaaDoorW.PrintWords Go.Proofs.YtamcacahjlaogaaDoorW.PrintLast Go.Proofs.YtamcacahjlaogaaDoorW.PrintMore Er
theorem splice_take {β : Type} (c y : List β) (off n : Nat) (h : off + y.length ≤ n) (hn : n ≤ c.length) : (c.take off ++ (y ++ c.drop (off + y.length))).take n = (c.take n).take off ++ (y ++ (c.take n).drop (off + y.length)) := by
 rw [List.take_append, List.take_append, List.length_take, Nat.min_eq_left (by omega), List.take_take, Nat.min_eq_right (by omega), List.take_take, Nat.min_eq_left (by omega), List.take_of_length_le (by omega : y.length ≤ n - off), List.drop_take]
 congr 3; omega
theorem grownBy_setRow (w : World) (g : Nat) (cs : Array Value) : w.grownBy (w.setRow g cs) (some g) :=
 ⟨rfl, rfl, rfl, by simp [World.setRow], fun k _ hne => setRow_other w g k cs (fun e => hne (by rw [e]))⟩
theorem step_copy_in {P : Program} {ops : Array Oper} {o : Oper} {a : Act} {w : World} {K : Act → World → Prop} {Q : Exit → Act → World → Prop} {E : Prop} (hgd : o.guard = none) (d s : Operand) (dT sT : TypeId)
  (ho : o.op = .call { callee := .builtin .copy, args := #[d, s], argTypes := #[dT, sT] }) (elem : TypeId) (hu : P.underlying dT = some (.slice elem)) (hsz : (P.info? elem).map (·.size) = some 1)
  (dp sp : Option Addr) (dLen dCap sLen sCap : Nat) (hd : a.eval d = .slice dp dLen dCap) (hs : a.eval s = .slice sp sLen sCap)
  {α : Type} (enc : α → Value) {h1 : ∀ x : α, (enc x).oneCell' = true} {base : Nat} {ok : Nat → Prop} {A0 : Option Addr} {n cap : Nat} {xs : List α} (HR : (Kd.scalar enc h1).R elem w base ok (.slice A0 n cap) xs)
  (off : Nat) (ys : List α) (hn : ys.length = sLen) (hfit : off + ys.length ≤ n) (hl : ys.length ≤ dLen) (hdp : 0 < ys.length → ∀ g, A0 = some ⟨g, 0, none⟩ → dp = some ⟨g, off, none⟩) (HS : (Kd.scalar enc h1).C w sp ys.length ys)
  (h : ∀ w', (Kd.scalar enc h1).R elem w' base ok (.slice A0 n cap) (xs.take off ++ (ys ++ xs.drop (off + ys.length))) → w.grownBy w' (Value.slice A0 n cap).ownBlock → K (a.put o.dst (goInt ys.length)) w') :
  if Region.wanted o (yielded ops a.tmps) = true then Oper.wp P o a w K Q else E := by
 have hw : Region.wanted o (yielded ops a.tmps) = true := by simp [Region.wanted, hgd]
 rw [if_pos hw]
 by_cases h0 : ys.length = 0
 ·obtain rfl : ys = [] := List.eq_nil_of_length_eq_zero h0
  have hrun := run_copy_none (P := P) w dT sT o.type elem dp sp dLen dCap sLen sCap hu hsz (by simp only [List.length_nil] at hn; subst hn; exact Nat.zero_min _)
  unfold Oper.wp
  simp [execOp, ho, resolve, invoke, builtin, hd, hs, hrun, Result.andThen]
  exact h w (by simpa using HR) ⟨rfl, rfl, rfl, Nat.le_refl _, fun _ _ _ => rfl⟩
 ·obtain ⟨-, -, hS⟩ := HS
  obtain ⟨ad, rfl, hcs⟩ := hS (by omega)
  obtain ⟨hok, inner, ⟨hlen, hown⟩, hreps⟩ := HR
  rcases hown with ⟨e1, _⟩ | ⟨g', cap', cur, e1, hb, hg, hnc, hcm, hcs2, htk⟩
  ·injection e1 with _ e2 _
   rename_i e3
   omega
  ·cases e1
   obtain rfl := hdp (by omega) g' rfl
   have hsrc : ∀ j v, (encs enc ys)[j]? = some v → w.cell? (ad.add j) = some v := fun j v hj => by
    unfold encs at hj
    rw [List.getElem?_map] at hj
    obtain ⟨p, hp, rfl⟩ := Option.map_eq_some_iff.1 hj
    obtain ⟨c, _, hK, hcell⟩ := hcs j p hp
    have hK' : c = [enc p] := hK
    subst hK'
    have := hcell 0 (enc p) rfl
    simpa [Kd.scalar] using this
   have hcur : cur.size = cap := by simpa [Kd.scalar] using hcs2
   have hrun := run_copy_row (P := P) w dT sT o.type elem g' off dLen dCap ad sLen sCap cur elem (encs enc ys) hu hsz hg (by rw [encs_length, hn]; exact (Nat.min_eq_left (by omega)).symm) hsrc (by rw [encs_length]; omega) (fun v hv => by
    unfold encs at hv
    obtain ⟨x, _, rfl⟩ := List.mem_map.1 hv
    exact h1 x)
   unfold Oper.wp
   simp [execOp, ho, resolve, invoke, builtin, hd, hs, hrun, Result.andThen]
   have hxs : inner = encs enc xs := by
    refine List.ext_getElem (by rw [hlen, encs_length]; simp [Kd.scalar]) fun j a1 a2 => ?_
    have hj : j < xs.length := by rw [encs_length] at a2; exact a2
    have := hreps.2 j xs[j] (List.getElem?_eq_getElem hj)
    have h2 : (inner.drop (j * 1)).take 1 = [enc xs[j]] := this
    rw [Nat.mul_one, List.drop_eq_getElem_cons a1] at h2
    simp only [List.take_succ_cons, List.take_zero, List.cons.injEq, and_true] at h2
    rw [h2]; simp [encs]
   have htk' : cur.toList.take xs.length = encs enc xs := by rw [← hxs, ← htk]; simp [Kd.scalar]
   rw [show (encs enc ys).length = ys.length from encs_length _]
   refine h _ ⟨hok, encs enc (xs.take off ++ (ys ++ xs.drop (off + ys.length))), ⟨by rw [encs_length]; simp only [Kd.scalar, Nat.mul_one], .inr ⟨g', cap, _, by rw [show (xs.take off ++ (ys ++ xs.drop (off + ys.length))).length = xs.length by simp only [List.length_append, List.length_take, List.length_drop]; omega], hb, setRow_heap w g' _ _ elem _ hg, by simp only [List.length_append, List.length_take, List.length_drop]; omega, hcm, ?_, ?_⟩⟩, ?_⟩ (grownBy_setRow _ _ _)
   ·simp [Kd.scalar, encs]; omega
   ·have hsl := splice_take cur.toList (encs enc ys) off xs.length (by rw [encs_length]; exact hfit) (by have e : cur.toList.length = cur.size := Array.length_toList; omega)
    rw [encs_length] at hsl
    rw [show (xs.take off ++ (ys ++ xs.drop (off + ys.length))).length * (Kd.scalar enc h1).sz = xs.length by simp only [Kd.scalar, List.length_append, List.length_take, List.length_drop]; omega]
    rw [hsl, htk']
    simp [encs, List.map_take, List.map_drop]
   ·exact Kd.reps_scalar _
end Go.Proofs.YtamcacahjlaogaaDoor
