/- A text loaded into pieces (load), walked. Condition: at most 8192 runes. -/
import Derived.Test.YtnomidpnofhjdaaLp1
import Derived.Deep.LoopGhost
namespace Go.Proofs.Ytnomidpnofhjdaa
open Go.RowKit Go.Proofs.YtnomidpnofhjdaaW.PrintWords Go.Proofs.YtnomidpnofhjdaaW.PrintLast Go.Proofs.YtnomidpnofhjdaaW.PrintMore Er
theorem R_boxk {α : Type} {d : Kd α} {e : TypeId} {w : World} {X n base : Nat} {v : Value} {ys : List α} (h : Kd.R d e w n (fun _ => True) v ys) (hX : X < n) (hb : base ≤ n) (i : Nat) (u : Value) :
    Kd.R d e (w.setCell ⟨X, i, none⟩ u) base (fun _ => True) v ys := by
  have h1 := Kd.R_mono (ok' := fun k => k ≠ X) (Kd.R_bound h) (fun k hk => by have := hk.2.1; omega)
  exact Kd.R_lower (Kd.R_mono (Kd.R_far (p := ⟨X, i, none⟩) h1 (fun _ h => h) u) (fun _ _ => trivial)) hb
/-- a piece of a store -/
def mkQ (T : List Int) (off n : Nat) : QBase.S38 := ⟨off, n, nl ((T.take (off + n)).drop off)⟩
/-- the first q pieces of a text, of 16 runes each -/
def chunkQ (T : List Int) (q : Nat) : List QBase.S38 := (List.range q).map fun j => mkQ T (16 * j) (min 16 (T.length - 16 * j))
theorem chunkQ_succ (T : List Int) (q : Nat) : chunkQ T (q + 1) = chunkQ T q ++ [mkQ T (16 * q) (min 16 (T.length - 16 * q))] := by simp [chunkQ, List.range_succ]
theorem chunkQ_len (T : List Int) (q : Nat) : (chunkQ T q).length = q := by simp [chunkQ]
/-- where the loop stands -/
structure LoadAt (w2 : World) (T : List Int) (k : Nat) (v4 v5 : Value) (wr : World) : Prop where
  st : ∃ q : Nat, v5 = .int .i64 ((16 * q : Nat) : Int) ∧ k + 16 * q = T.length + 16 ∧ 16 * q ≤ T.length + 15 ∧ Kd.R QBase.k38 38 wr w2.heap.size (fun _ => True) v4 (chunkQ T q)
  bel : Below w2.heap.size w2 wr
def LoadPost (w : World) (b : Nat) (T : List Int) (e : Ending) (w' : World) : Prop :=
  e = .returned (.tuple #[]) ∧ (∃ A c p S, w'.heap[b]? = some (.cells #[.slice A T.length c, ptrV p] 43 (0, 0)) ∧ Kd.R (Kd.int .i32) 21 w' w.heap.size (fun _ => True) (.slice A T.length c) T ∧ Rep w' (midF 1000000 ((chunkQ T ((T.length + 15) / 16)).map pcQ)) p S) ∧ Below b w w'
set_option maxHeartbeats 8000000 in
set_option maxRecDepth 100000 in
theorem load_any (w : World) (b : Nat) (T : List Int) (B : Option Addr) (d : Nat) (hb : w.heap[b]? = some (.cells #[.slice none 0 0, .pointer none] 43 (0, 0))) (hT : T.length ≤ 8192) (hr : Kd.C (Kd.int .i32) w B T.length T) (_hd : T.length ≤ d) :
    Calls Try.prog 14 #[.pointer (some ⟨b, 0, none⟩), .slice B T.length d] w (LoadPost w b T) := by
  have HR := Aside0.mk hr
  have HBX := Aside0.mk hb
  have HT := Aside0.mk hT
  clear hr hb hT
  go_enter Try.func14, Try.ntmps14
  go_wp2_with ((with_reducible refine gate_builtin (b := .append) (xs := #[.const (.slice none 0 0), .tmp 7]) rfl ?_); at_builtin; refine app_nil .i32 (fun _ => True) rfl (.const (.slice none 0 0)) (.tmp 7) 22 21 (.int .i32 0) 4 rfl Try.underlying22 info32 rfl (by decide) rfl T B T.length d rfl rfl HR.out (fun _ _ => trivial) (by have := HT.out; omega) ?_; intro v1 w1 ho hb1; obtain ⟨A1, c1, eo⟩ := Kd.R_slice ho; subst eo; have HO1 := Aside0.mk ho; have HB1 := Aside0.mk hb1; have hbx1 := blk_below HBX.out hb1; have y0 : w1.cell? ⟨b, 0, none⟩ = some (.slice none 0 0) := (blk_cell hbx1 0).trans rfl; have yf := blk_frozen hbx1 0; have HX2 := Aside0.mk (blk_put hbx1 0 (.slice A1 T.length c1) rfl); clear ho hb1 hbx1)
  obtain ⟨w2, e2⟩ : ∃ y, w1.setCell ⟨b, 0, none⟩ (.slice A1 T.length c1) = y := ⟨_, rfl⟩
  rw [e2] at HX2
  rw [e2]
  have hlt := blk_lt HBX.out
  have HO2 : Aside0 (Kd.R (Kd.int .i32) 21 w2 w.heap.size (fun _ => True) (.slice A1 T.length c1) T) := ⟨by rw [← e2]; exact R_boxk HO1.out hlt (Nat.le_refl _) 0 _⟩
  have HB2 : Aside0 (Below b w w2) := ⟨by rw [← e2]; exact (HB1.out.mono (Nat.le_of_lt hlt)).setCell (p := ⟨b, 0, none⟩) (Nat.le_refl _) _⟩
  have HS2 : Aside0 (w.heap.size ≤ w2.heap.size) := ⟨HB2.out.size⟩
  clear e2 y0 yf HO1 HB1
  have START : LoadAt w2 T (T.length + 16) (.slice none 0 0) (.int .i64 0) w2 := ⟨⟨0, by simp, by omega, by omega, by simp [chunkQ]; exact Kd.R_nil _ _ _ _ _⟩, Below.refl _ _⟩
  have HST := Aside0.mk START
  clear START
  go_loopg [4, 5] (T.length + 16) (fun k v4 v5 wr => LoadAt w2 T k v4 v5 wr)
  case atStart => exact HST.out
  case round =>
    clear HST
    obtain ⟨⟨q, rfl, hk, hq, hrow⟩, hbel⟩ := hrel
    obtain ⟨A4, c4, eo⟩ := Kd.R_slice hrow
    subst eo
    have HROW := Aside0.mk hrow
    have HBEL := Aside0.mk hbel
    obtain ⟨qi, hqi⟩ : ∃ qi : Int, qi = ((16 * q : Nat) : Int) := ⟨_, rfl⟩
    rw [← hqi]
    have HQ := Aside0.mk (And.intro hqi (And.intro hk hq))
    clear hrow hbel hk hq
    by_cases c : qi < (T.length : Int)
    · have cd : decide (qi < (T.length : Int)) = true := decide_eq_true c
      obtain ⟨m, hm⟩ : ∃ m : Nat, m = min 16 (T.length - 16 * q) := ⟨_, rfl⟩
      have e1 : wrap64 ((T.length : Int) - qi) = (T.length : Int) - qi := by have := HT.out; unfold wrap64; omega
      have HM := Aside0.mk hm
      have HC := Aside0.mk c
      clear hm c hqi
      have hbw := blk_below HX2.out HBEL.out
      have HRW := Kd.R_below HO2.out (HBEL.out.mono (Nat.le_refl _))
      obtain ⟨A1', c1', e1c, hcc, hCT⟩ := Kd.R_reads HRW
      cases e1c
      have PA : Aside0 (∀ mI : Int, mI = (m : Int) → Calls Try.prog 21 #[.pointer (some ⟨b, 0, none⟩), .int .i64 qi, .int .i64 mI] wr fun e w' => e = .returned (.agg #[.int .i64 (mkQ T (16 * q) m).f0, .int .i64 (mkQ T (16 * q) m).f1, .int .i64 (mkQ T (16 * q) m).f2]) ∧ Below wr.heap.size wr w') := ⟨fun mI hmI => by
        have h := piece_any wr b A1 c1 T (.pointer none) (16 * q) m hbw hCT hcc (by have := HM.out; have := HC.out; have := HQ.out.1; omega) (by have := HT.out; omega)
        rw [← HQ.out.1, ← hmI] at h
        have e : (mkQ T (16 * q) m) = ⟨qi, mI, nl ((T.take (16 * q + m)).drop (16 * q))⟩ := by unfold mkQ; rw [← HQ.out.1, ← hmI]
        rw [e]
        exact h⟩
      clear hbw HRW hcc hCT
      go_wp2_with fail
      all_goals
        refine (PA.out _ (by have := HM.out; have := HC.out; have := HQ.out.1; omega)).mono ?_
        rintro e w3 ⟨rfl, hb3⟩
        have HB3 := Aside0.mk (HBEL.out.trans (hb3.mono HBEL.out.size))
        have HR3 := Aside0.mk (Kd.R_below HROW.out hb3)
        clear hb3
        go_wp2_with ((with_reducible refine gate_builtin (b := .append) (xs := #[.tmp 17, .tmp 26]) rfl ?_); at_builtin; refine Kd.R_append QBase.k38 (w0 := w2) w2.heap.size rfl (.tmp 17) (.tmp 26) 36 38 (.agg #[(.int .i64 0), (.int .i64 0), (.int .i64 0)]) 24 rfl Try.underlying36 QBase.info38 rfl (by decide) (by omega) (.slice A4 (chunkQ T q).length c4) (chunkQ T q) (mkQ T (16 * q) m) [.int .i64 (mkQ T (16 * q) m).f0, .int .i64 (mkQ T (16 * q) m).f1, .int .i64 (mkQ T (16 * q) m).f2] (fun _ => True) (fun _ => False) rfl rfl ?aP (fun _ hk => hk.elim) ?aF ?aO ?aB ?aS ?aL ?_; (case aP => exact QBase.k38_mkM _ _ _ _); (case aF => exact fun _ _ => trivial); (case aO => first | exact HR3.out | exact Kd.R_alloc HR3.out _); (case aB => first | exact HB3.out | exact HB3.out.alloc HB3.out.size _); (case aS => first | exact HB3.out.size | exact (HB3.out.alloc HB3.out.size _).size); (case aL => rw [chunkQ_len]; have := HT.out; have := HQ.out; omega); intro v4 w4 ho hb4 hg hat; have HR4 := Aside0.mk ho; have HB4 := Aside0.mk hb4; clear ho hb4 hg hat)
        go_roundg (T.length + 16 - 16 * (q + 1))
        case measure => have := HC.out; have := HQ.out; omega
        case rel =>
          have hc := HC.out
          have hq := HQ.out
          have ht := HT.out
          exact ⟨⟨q + 1, by rw [show wrap64 (qi + 16) = ((16 * (q + 1) : Nat) : Int) by unfold wrap64; omega], by omega, by omega, by rw [chunkQ_succ, ← HM.out]; exact HR4.out⟩, HB4.out⟩
    · have cd : decide (qi < (T.length : Int)) = false := decide_eq_false c
      have HC := Aside0.mk c
      clear c hqi
      go_wp2_with fail
      have hc := HC.out
      have hqq := HQ.out
      have ht := HT.out
      have eq : q = (T.length + 15) / 16 := by omega
      obtain ⟨A4', c4', e4, h4, hC4⟩ := Kd.R_reads HROW.out
      cases e4
      have hlq := chunkQ_len T q
      have MA := Aside0.mk (middle_any 1000000 wr A4 c4 (chunkQ T q) (by omega) (by omega) hC4 h4)
      have EQ := Aside0.mk eq
      clear hc hqq ht eq h4 hC4 hlq
      refine MA.out.mono ?_
      rintro e w5 ⟨p, S, rfl, r5, n5, l5, b5⟩
      have hx5 := blk_below (blk_below HX2.out HBEL.out) b5
      have z0 : w5.cell? ⟨b, 1, none⟩ = some (.pointer none) := (blk_cell hx5 1).trans rfl
      have zf := blk_frozen hx5 1
      have hlb := blk_lt HBX.out
      have hbS : b ∉ S := fun hm => by have := l5 b hm; have := HBEL.out.size; have := HS2.out; omega
      have HX6 := Aside0.mk (blk_put hx5 1 (ptrV p) rfl)
      have RI := Aside0.mk (R_boxk (Kd.R_below (Kd.R_below HO2.out HBEL.out) b5) hlb (Nat.le_refl _) 1 (ptrV p))
      have hU : UpdS [b] w5 (w5.setCell ⟨b, 1, none⟩ (ptrV p)) := ((Upd.refl b w5).set _).upds
      have RR := Aside0.mk (r5.upd hU (fun k hk q => by simp only [List.mem_singleton] at q; subst q; exact hbS hk))
      have BB := Aside0.mk (((HB2.out.trans (HBEL.out.mono (Nat.le_of_lt (Nat.lt_of_lt_of_le hlb HS2.out)))).trans (b5.mono (Nat.le_trans (Nat.le_of_lt hlb) (Nat.le_trans HS2.out HBEL.out.size)))).setCell (p := ⟨b, 1, none⟩) (Nat.le_refl _) (ptrV p))
      clear r5 n5 l5 b5 hx5 hbS hU hlb
      go_wp2
      go_end0
      refine ⟨rfl, ⟨A1, c1, p, S, HX6.out, RI.out, ?_⟩, BB.out⟩
      rw [← EQ.out]
      exact RR.out
end Go.Proofs.Ytnomidpnofhjdaa
