/- A tree built out of the middle of its pieces (middle), walked. Condition: at most 1000000 pieces. -/
import Derived.Test.YtnomidpnofhjdaaPs0
import Derived.Test.YtnomidpnofhjdaaHk
namespace Go.Proofs.Ytnomidpnofhjdaa
open Go.RowKit Go.Proofs.YtnomidpnofhjdaaW.PrintWords Go.Proofs.YtnomidpnofhjdaaW.PrintLast Go.Proofs.YtnomidpnofhjdaaW.PrintMore Er
def pcQ (x : QBase.S38) : Pc := ⟨x.f0, x.f1, x.f2⟩
/-- the tree out of the middle -/
def midF : Nat → List Pc → Tree
  | 0, _ => .nil
  | n + 1, ps => match ps[ps.length / 2]? with
    | none => .nil
    | some v => .node (midF n (ps.take (ps.length / 2))) v (midF n (ps.drop (ps.length / 2 + 1)))
structure TSt (w w' : World) : Prop where
  bel : Below w.heap.size w w'
theorem TSt.below {w w1 w2 : World} (h : TSt w w1) (hb : Below w1.heap.size w1 w2) : TSt w w2 := ⟨below_step h.bel hb⟩
theorem TSt.alloc {w w1 : World} {o : Obj} (h : TSt w w1) : TSt w (w1.alloc o) := h.below ((Below.refl _ w1).alloc (Nat.le_refl _) _)
theorem TSt.drew {w w1 : World} (h : TSt w w1) : TSt w w1.drew := h.below (Below.refl _ w1).drew
theorem TSt.keep {w w1 : World} {a : Addr} {v : Value} (h : TSt w w1) (e : w.cell? a = some v) : w1.cell? a = some v := (h.bel.cell (World.block_lt_of_cell? w _ e)).trans e
theorem TSt.set {w w1 : World} {p : Addr} {v : Value} (h : TSt w w1) (hp : w.heap.size ≤ p.block) : TSt w (w1.setCell p v) := ⟨h.bel.setCell hp v⟩
def MidPost (w : World) (t : Tree) (e : Ending) (w' : World) : Prop := ∃ p S, e = .returned (ptrV p) ∧ Rep w' t p S ∧ S.Nodup ∧ (∀ k ∈ S, w.heap.size ≤ k) ∧ Below w.heap.size w w'
set_option maxHeartbeats 4000000 in
set_option maxRecDepth 100000 in
theorem middle_any (n : Nat) : ∀ (w : World) (A : Option Addr) (c : Nat) (xs : List QBase.S38), xs.length ≤ n → xs.length ≤ 1000000 → Kd.C QBase.k38 w A xs.length xs → xs.length ≤ c →
    Calls Try.prog 22 #[.slice A xs.length c] w (MidPost w (midF n (xs.map pcQ))) := by
  induction n with
  | zero =>
    intro w A c xs hn hm hC hc
    have h0 : xs = [] := List.eq_nil_of_length_eq_zero (by omega)
    subst h0
    go_enter Try.func22, Try.ntmps22
    go_wp2
    go_ret
    exact ⟨none, [], rfl, ⟨rfl, rfl⟩, List.nodup_nil, by simp, Below.refl _ _⟩
  | succ n ih =>
    intro w A c xs hn hm hC hc
    by_cases h0 : xs.length = 0
    · have h0 : xs = [] := List.eq_nil_of_length_eq_zero h0
      subst h0
      go_enter Try.func22, Try.ntmps22
      go_wp2
      go_ret
      exact ⟨none, [], rfl, ⟨rfl, rfl⟩, List.nodup_nil, by simp, Below.refl _ _⟩
    · obtain ⟨m, hmm⟩ : ∃ m, m = xs.length := ⟨_, rfl⟩
      obtain ⟨k, hk⟩ : ∃ k, k = xs.length / 2 := ⟨_, rfl⟩
      have hkl : k < xs.length := by omega
      obtain ⟨ki, hki⟩ : ∃ ki : Int, ki = (k : Int) := ⟨_, rfl⟩
      have e1 : ((xs.length : Int) == 0) = false := by simpa using h0
      have e1' : decide ((xs.length : Int) = 0) = false := decide_eq_false (by omega)
      have hq : (xs.length : Int) / 2 = ki := by omega
      have sw : wrap64 ki = ki := by unfold wrap64; omega
      obtain ⟨k1, hk1⟩ : ∃ k1 : Int, k1 = ((k + 1 : Nat) : Int) := ⟨_, rfl⟩
      have s1 : IntKind.i64.wrap (ki + 1) = k1 := by rw [IntKind.wrap_i64]; omega
      have p0 : (0 ≤ ki) = True := eq_true (by omega)
      have q0 : (ki < (xs.length : Int)) = True := eq_true (by omega)
      obtain ⟨ad, eA, x0, x1, x2⟩ := QBase.at_T38 hC ki (by omega) (by omega)
      subst eA
      have hv : (xs.map pcQ)[k]? = some (pcQ (QBase.rd_T38 xs ki)) := by
        rw [List.getElem?_map, List.getElem?_eq_getElem hkl]
        unfold QBase.rd_T38
        rw [hki, Int.toNat_natCast]
        simp [List.getD, hkl]
      generalize QBase.rd_T38 xs ki = v at x0 x1 x2 hv
      have ht1 := cut_to (P := Try.prog) 36 38 .i64 Try.underlying36 (info_parts QBase.info38).choose_spec.1 (some ad) xs.length c ki (by omega) (by omega) hc
      have ht2 := cut_from (P := Try.prog) 36 38 .i64 Try.underlying36 (info_parts QBase.info38).choose_spec.1 3 (info_parts QBase.info38).choose_spec.2.2.1 (some ad) xs.length c k1 (by omega) (by omega)
      have hC1 := Kd.C_take (m := k) hC (by omega)
      have hC2 := Kd.C_drop (m := k + 1) (c := c) hC (by omega) hc
      have el1 : ki.toNat = (xs.take k).length := by rw [List.length_take]; omega
      have el2 : xs.length - k1.toNat = (xs.drop (k + 1)).length := by rw [List.length_drop]; omega
      have ek : k1.toNat = k + 1 := by omega
      rw [el1] at ht1
      rw [el2, ek] at ht2
      have hsz : QBase.k38.sz = 3 := rfl
      rw [hsz] at hC2
      have hh2 : (xs.drop (k + 1)).length ≤ c - (k + 1) := by rw [List.length_drop]; omega
      have hh1 : (xs.take k).length ≤ c := by rw [List.length_take]; omega
      have hm1 : (xs.take k).length ≤ n ∧ (xs.take k).length ≤ 1000000 := by rw [List.length_take]; omega
      have hm2 : (xs.drop (k + 1)).length ≤ n ∧ (xs.drop (k + 1)).length ≤ 1000000 := by rw [List.length_drop]; omega
      have EQ : midF (n + 1) (xs.map pcQ) = .node (midF n ((xs.take k).map pcQ)) (pcQ v) (midF n ((xs.drop (k + 1)).map pcQ)) := by
        simp only [midF]
        rw [List.length_map, ← hk, hv]
        simp only [List.map_take, List.map_drop]
      rw [EQ]
      generalize xs.take k = L1 at ht1 hC1 hh1 hm1 EQ ⊢
      generalize xs.drop (k + 1) = L2 at ht2 hC2 hh2 hm2 EQ ⊢
      generalize (if c = k + 1 then some ad else (some ad).map (·.add ((k + 1) * 3))) = A2 at ht2 hC2
      generalize c - (k + 1) = c2 at ht2 hh2
      have M1 : Aside0 (∀ W, TSt w W → Calls Try.prog 22 #[.slice (some ad) L1.length c] W (MidPost W (midF n (L1.map pcQ)))) := ⟨fun W hW => ih W (some ad) c L1 hm1.1 hm1.2 (Kd.C_below hC1 hW.bel) hh1⟩
      have M2 : Aside0 (∀ W, TSt w W → Calls Try.prog 22 #[.slice A2 L2.length c2] W (MidPost W (midF n (L2.map pcQ)))) := ⟨fun W hW => ih W A2 c2 L2 hm2.1 hm2.2 (Kd.C_below hC2 hW.bel) hh2⟩
      obtain ⟨ax, hax⟩ : ∃ ax, ad.add (ki.toNat * 3) = ax := ⟨_, rfl⟩
      rw [hax] at x0 x1 x2
      have X0 := Aside0.mk x0
      have X1 := Aside0.mk x1
      have X2 := Aside0.mk x2
      have TT : TSt w w := ⟨Below.refl _ _⟩
      clear hC hc hv el1 el2 ek hsz hm1 hm2 hh1 hh2 hC1 hC2 EQ ih hkl hk hn hm hmm hki hk1 h0
      go_enter Try.func22, Try.ntmps22
      go_wp2

      go_region_held3 (fun w' => w'.cell? ax = some (.int .i64 v.f0) ∧ w'.cell? ⟨ax.block, ax.off + 1, none⟩ = some (.int .i64 v.f1) ∧ w'.cell? ⟨ax.block, ax.off + 2, none⟩ = some (.int .i64 v.f2) ∧ TSt w w')
        (first | (refine (fun (y : TSt w _) => ⟨y.keep X0.out, y.keep X1.out, y.keep X2.out, y⟩) ?_; repeat (first | assumption | (with_reducible apply TSt.drew) | (with_reducible apply TSt.alloc))))
        (first
          | (go_at_call 22; (with_reducible refine (M1.out _ ?hts).mono ?_); (case hts => repeat (first | assumption | (with_reducible apply TSt.drew) | (with_reducible apply TSt.alloc))); rintro e w1 ⟨q1, S1, rfl, r1, n1, l1, b1⟩; have ts1 := TT.drew.below b1)
          | (go_at_call 22; (with_reducible refine (M2.out _ ?hts).mono ?_); (case hts => repeat (first | assumption | (with_reducible apply TSt.drew) | (with_reducible apply TSt.alloc))); rintro e w2 ⟨q2, S2, rfl, r2, n2, l2, b2⟩; have ts2 := ts1.below b2)
          | (go_at_call 28; (refine (join3_any _ q1 q2 _ _ (pcQ v) S1 S2 (r1.below b2) r2 ?nd).mono ?_); (case nd => exact List.nodup_append.2 ⟨n1, n2, fun a ha b hb e => by subst e; have := r1.lt a ha; have := l2 a hb; omega⟩); rintro e w3 ⟨m, rfl, hm, hu, hr3⟩; have ts3 := ts2.below hu.below))
      all_goals
        go_wp2
        go_ret
        have z1 : w.heap.size ≤ w1.heap.size := ts1.bel.size
        have z2 : w1.heap.size ≤ w2.heap.size := b2.size
        refine ⟨some m, m :: (S1 ++ S2), rfl, hr3, List.nodup_cons.2 ⟨fun h => ?_, List.nodup_append.2 ⟨n1, n2, fun a ha b hb e => by subst e; have := r1.lt a ha; have := l2 a hb; omega⟩⟩, fun q hq => ?_, ts3.bel⟩
        · rcases List.mem_append.1 h with h | h
          · have := r1.lt _ h; omega
          · have := r2.lt _ h; omega
        · rcases List.mem_cons.1 hq with rfl | h
          · omega
          · rcases List.mem_append.1 h with h | h
            · exact l1 q h
            · have := l2 q h; omega
end Go.Proofs.Ytnomidpnofhjdaa
