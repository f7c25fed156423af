/- Gap buffers of runes: remove, walked. No condition but the bounds. -/
import Derived.Test.YtlacoameobpfgaaDoorGp5
namespace Go.Proofs.YtlacoameobpfgaaDoor
open Go.RowKit Go.Proofs.YtlacoameobpfgaaDoorW.PrintWords Go.Proofs.YtlacoameobpfgaaDoorW.PrintLast Go.Proofs.YtlacoameobpfgaaDoorW.PrintMore Er
/-- a text without i runes behind rune l -/
def without (T : List Int) (l i : Nat) : List Int := T.take l ++ T.drop (l + i)
theorem without_zero (T : List Int) (l : Nat) : without T l 0 = T := by unfold without; rw [Nat.add_zero, List.take_append_drop]
theorem without_length (T : List Int) (l i : Nat) (h : l + i ≤ T.length) : (without T l i).length = T.length - i := by
  unfold without; rw [List.length_append, List.length_take, List.length_drop]; omega
theorem without_succ (T : List Int) (l i : Nat) (h : l + i < T.length) : (without T l i).eraseIdx l = without T l (i + 1) := by
  have e : (T.take l).length = l := by rw [List.length_take]; omega
  unfold without
  rw [List.eraseIdx_append_of_length_le (by omega), e, Nat.sub_self, List.drop_eq_getElem_cons h]
  simp only [List.eraseIdx_cons_zero]
  rfl
structure RemAt (w : World) (base b : Nat) (T : List Int) (l g d : Nat) (k : Nat) (v13 : Value) (wr : World) : Prop where
  st : ∃ i : Nat, v13 = .int .i64 i ∧ i + k = d ∧ GapIs wr base b (without T l i) l (g + i)
  bel : Below base w wr
set_option maxHeartbeats 8000000 in
set_option maxRecDepth 100000 in
theorem remove_any (w : World) (base b : Nat) (T : List Int) (l0 g l h : Nat) (hG : GapIs w base b T l0 g) (hl : l ≤ h) (hh : h ≤ T.length) :
    Calls Tryd.prog 53 #[gpt b, .int .i64 l, .int .i64 h] w fun e w' => e = .returned (.tuple #[]) ∧ GapIs w' base b (without T l (h - l)) l (g + (h - l)) ∧ Below base w w' := by
  have HL := Aside0.mk hl
  have HH := Aside0.mk hh
  have hT : T.length + g ≤ 1000000 := hG.2.2.1
  have HM := Aside0.mk (move_any w base b T l0 g l hG (by omega))
  have b1 : h < 2000000 := by omega
  clear hG
  simp only [gpt]
  go_enter Tryd.func53, Tryd.ntmps53
  go_wp2_with fail
  refine HM.out.mono ?_
  rintro e w1 ⟨rfl, hG1, hB1⟩
  clear HM
  have AT : Aside0 (RemAt w base b T l g (h - l) (h - l) (.int .i64 0) w1) := ⟨⟨⟨0, rfl, by omega, by rw [without_zero]; exact hG1⟩, hB1⟩⟩
  clear hG1 hB1
  go_wp2
  go_loopg [13] (h - l) (fun k v13 wr => RemAt w base b T l g (h - l) k v13 wr)
  case atStart => exact AT.out
  case round =>
    clear AT
    obtain ⟨⟨i, rfl, hk, hG⟩, hB⟩ := hrel
    have HK := Aside0.mk hk
    have HB := Aside0.mk hB
    have HG := Aside0.mk hG
    clear hB hG hk
    by_cases ci : i < h - l
    · have hwl := without_length T l i (by have := HH.out; omega)
      have hws := without_succ T l i (by have := HH.out; omega)
      obtain ⟨T', hT'⟩ : ∃ T', Aside0 (T' = without T l i) := ⟨_, ⟨rfl⟩⟩
      rw [← hT'.out] at hwl hws
      have HG' : Aside0 (GapIs wr base b T' l (g + i)) := ⟨by rw [hT'.out]; exact HG.out⟩
      clear HG
      obtain ⟨g', hg'⟩ : ∃ g', Aside0 (g' = g + i) := ⟨_, ⟨rfl⟩⟩
      rw [← hg'.out] at HG'
      have HWL := Aside0.mk hwl
      have HWS := Aside0.mk hws
      clear hwl hws
      obtain ⟨g1, g2, g3, v, hblk, hR⟩ := HG'.out
      have hlen := lay_length T' l g' g2
      obtain ⟨r, cp, rfl, hrb, hrl, cl_, hrc⟩ := Kd.R_form hR (by have := HWL.out; have := HH.out; omega)
      have hrne : r ≠ b := hR.1 r rfl
      have BK := Aside0.mk hblk
      have HR := Aside0.mk hR
      obtain ⟨n, HN⟩ : ∃ n, Aside0 (n = l + g') := ⟨_, ⟨rfl⟩⟩
      clear hblk hR hrc cl_ HG'
      have EX : Aside0 (∃ ys, ys = lay T' l g') := ⟨⟨_, rfl⟩⟩
      obtain ⟨xs, hxs⟩ := EX.out
      rw [← hxs, ← HN.out] at BK
      rw [← hxs] at hlen HR
      have HXS := Aside0.mk hxs
      have HLEN := Aside0.mk hlen
      clear hlen hxs EX
      have b4 : n < 2000000 := by have := HN.out; omega
      have bn : (n : Int) < (xs.length : Int) := by have := HN.out; have := HLEN.out; have := HWL.out; have := HH.out; omega
      have hbb : base ≤ b := g1
      have q0 : wr.cell? ⟨b, 0, none⟩ = some (.slice (some ⟨r, 0, none⟩) xs.length cp) := (blk_cell BK.out 0).trans rfl
      have q2 : wr.cell? ⟨b, 2, none⟩ = some (.int .i64 n) := (blk_cell BK.out 2).trans rfl
      obtain ⟨y2, y3⟩ := Kd.R_celln (enc := Value.int .i32) (h1 := fun _ => rfl) 0 HR.out (n : Int) (by omega) bn
      simp only [Int.toNat_natCast] at y2 y3
      have Y2 := Aside0.mk y2
      have HCI := Aside0.mk ci
      have hi2 : i < 2000000 := by omega
      clear y2 g3
      go_wp2
      go_still_tail 10, (by kernel_rfl)
      change wpList _ _ _ _ _ wr.drew
      have HB6 : Aside0 (Below base w wr.drew) := ⟨HB.out.drew⟩
      have BK6 : Aside0 (wr.drew.heap[b]? = some (.cells #[.slice (some ⟨r, 0, none⟩) xs.length cp, .int .i64 l, .int .i64 n] 109 (0, 0))) := ⟨BK.out⟩
      have HR6 : Aside0 (Kd.R (Kd.int .i32) 21 wr.drew base (fun k => k ≠ b) (.slice (some ⟨r, 0, none⟩) xs.length cp) xs) := ⟨Kd.R_drew HR.out⟩
      have y2 : wr.drew.cell? ⟨r, n, none⟩ = some (.int .i32 (rdOf 0 xs (n : Int))) := Y2.out
      replace y3 : wr.drew.frozen? ⟨r, n, none⟩ = false := y3
      generalize wr.drew = w6 at HB6 BK6 HR6 y2 y3 ⊢
      clear q0 q2 Y2 HB BK HR
      go_wp2_with ((with_reducible refine gate_store (t := 21) (p := 24) rfl ?_); refine store_event (t := 21) (p := 24) (v := ?vo_w7) (w1 := (w6.setCell ⟨r, n, none⟩ (.int .i32 0))) ?hg ?ho ?hn ?hr ?_; (case ho => rfl); (case hg => rfl); (case hn => rfl); (case hr => first | (go_simp; done) | (go_simp; rfl)); intro w7 hw; have HP := Kd.R_putg (enc := Value.int .i32) (h1 := fun _ => rfl) HR6.out (n : Int) 0; simp only [Int.toNat_natCast] at HP; rw [← hw] at HP; have HB7 : Aside0 (Below base w w7) := ⟨by rw [hw]; exact HB6.out.setCell (p := ⟨r, n, none⟩) hrb _⟩; have BK7 := Aside0.mk (blk_grown BK6.out HP.2 (fun e => hrne (Option.some.inj e).symm)); have HR7 := Aside0.mk HP.1; clear hw HP y2 y3; have q2 : w7.cell? ⟨b, 2, none⟩ = some (.int .i64 n) := (blk_cell BK7.out 2).trans rfl; have f2 := blk_frozen BK7.out 2)
      go_roundg (h - l - (i + 1))
      case measure => have := HK.out; have := HCI.out; omega
      case rel =>
        have h1 := lay_eat T' l g' (by have := HWL.out; have := HH.out; have := HCI.out; omega)
        rw [← HXS.out, ← HN.out, HWS.out] at h1
        have hb8 := blk_put BK7.out 2 (.int .i64 ((n : Int) + 1)) rfl
        have hr8 := Kd.R_far (p := ⟨b, 2, none⟩) HR7.out (fun _ h => h) (.int .i64 ((n : Int) + 1))
        have hwl2 := without_length T l (i + 1) (by have := HH.out; have := HCI.out; omega)
        have hF : GapIs (w7.setCell ⟨b, 2, none⟩ (.int .i64 ((n : Int) + 1))) base b (without T l (i + 1)) l (g + (i + 1)) := ⟨hbb, by have := HH.out; have := HCI.out; omega, by have := HH.out; have := HCI.out; omega, _, by
          have e : ((l + (g + (i + 1)) : Nat) : Int) = (n : Int) + 1 := by have := HN.out; have := hg'.out; omega
          rw [e]; exact hb8, by rw [show g + (i + 1) = g' + 1 by have := hg'.out; omega, ← h1]; exact hr8⟩
        exact ⟨⟨i + 1, by go_num, by have := HK.out; have := HCI.out; omega, hF⟩, HB7.out.setCell (p := ⟨b, 2, none⟩) hbb _⟩
    · have hil : i = h - l := by have := HK.out; omega
      subst hil
      go_wp2
      go_end0
      exact ⟨rfl, HG.out, HB.out⟩
end Go.Proofs.YtlacoameobpfgaaDoor
