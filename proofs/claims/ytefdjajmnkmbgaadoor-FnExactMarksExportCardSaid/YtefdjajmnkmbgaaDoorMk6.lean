/- MarksExport, walked. Conditions: at most 1048576 marks, their ids are numbers of 64 bits; the library's table of tens reads as laid. -/
import Derived.Test.YtefdjajmnkmbgaaDoorMk3
import Derived.Shelf.Strconv.Itoa3
import Derived.Lib.AppendIntMem
import Derived.Lib.ItoaLen
namespace Go.Proofs.YtefdjajmnkmbgaaDoor
open Go.RowKit Go.Maps Go.Proofs.YtefdjajmnkmbgaaDoorW.PrintWords Go.Proofs.YtefdjajmnkmbgaaDoorW.PrintLast Go.Proofs.YtefdjajmnkmbgaaDoorW.PrintMore Er
set_option linter.unusedSimpArgs false
set_option linter.unusedVariables false
def laysItoa_ren : Go.Shelf.Ren := ⟨fun | 171 => 39 | 243 => 67 | 246 => 78 | 283 => 88 | 284 => 89 | 285 => 90 | 286 => 91 | 129 => 98 | 317 => 97 | 318 => 99 | 319 => 100 | 320 => 101 | 337 => 111 | 338 => 112 | n => n, fun | 3 => 3 | 9 => 9 | 2 => 2 | 4 => 4 | 171 => 124 | 0 => 0 | 53 => 85 | 37 => 24 | 5 => 5 | 173 => 127 | 212 => 145 | 51 => 146 | 20 => 20 | 213 => 147 | 46 => 93 | 232 => 162 | 233 => 163 | n => n, fun | 17 => 1 | 18 => 2 | 19 => 3 | n => n⟩
theorem laysItoa : Go.Proofs.LaysM.n171 Tryd.prog laysItoa_ren := {
  mixed := by kernel_rfl
  f129 := Tryd.func98.trans (congrArg some (by kernel_rfl))
  f171 := Tryd.func39.trans (congrArg some (by kernel_rfl))
  f243 := Tryd.func67.trans (congrArg some (by kernel_rfl))
  f246 := Tryd.func78.trans (congrArg some (by kernel_rfl))
  f283 := Tryd.func88.trans (congrArg some (by kernel_rfl))
  f284 := Tryd.func89.trans (congrArg some (by kernel_rfl))
  f285 := Tryd.func90.trans (congrArg some (by kernel_rfl))
  f286 := Tryd.func91.trans (congrArg some (by kernel_rfl))
  f317 := Tryd.func97.trans (congrArg some (by kernel_rfl))
  f318 := Tryd.func99.trans (congrArg some (by kernel_rfl))
  f319 := Tryd.func100.trans (congrArg some (by kernel_rfl))
  f320 := Tryd.func101.trans (congrArg some (by kernel_rfl))
  f337 := Tryd.func111.trans (congrArg some (by kernel_rfl))
  f338 := Tryd.func112.trans (congrArg some (by kernel_rfl))
  t0 := Tryd.underlying0
  a0 := Tryd.isAgg0
  z0 := Tryd.sizeOf0
  v0 := Tryd.zeroValue0
  t2 := Tryd.underlying2
  a2 := Tryd.isAgg2
  z2 := Tryd.sizeOf2
  v2 := Tryd.zeroValue2
  t3 := Tryd.underlying3
  a3 := Tryd.isAgg3
  z3 := Tryd.sizeOf3
  v3 := Tryd.zeroValue3
  t4 := Tryd.underlying4
  a4 := Tryd.isAgg4
  z4 := Tryd.sizeOf4
  v4 := Tryd.zeroValue4
  t5 := Tryd.underlying5
  a5 := Tryd.isAgg5
  z5 := Tryd.sizeOf5
  v5 := Tryd.zeroValue5
  t9 := Tryd.underlying9
  a9 := Tryd.isAgg9
  z9 := Tryd.sizeOf9
  v9 := Tryd.zeroValue9
  t20 := Tryd.underlying20
  a20 := Tryd.isAgg20
  z20 := Tryd.sizeOf20
  v20 := Tryd.zeroValue20
  t37 := Tryd.underlying24
  a37 := Tryd.isAgg24
  z37 := Tryd.sizeOf24
  v37 := Tryd.zeroValue24
  t46 := Tryd.underlying93
  a46 := Tryd.isAgg93
  z46 := Tryd.sizeOf93
  v46 := Tryd.zeroValue93
  t51 := Tryd.underlying146
  a51 := Tryd.isAgg146
  z51 := Tryd.sizeOf146
  v51 := Tryd.zeroValue146
  t53 := Tryd.underlying85
  a53 := Tryd.isAgg85
  z53 := Tryd.sizeOf85
  v53 := Tryd.zeroValue85
  t171 := Tryd.underlying124
  a171 := Tryd.isAgg124
  z171 := Tryd.sizeOf124
  v171 := Tryd.zeroValue124
  t173 := Tryd.underlying127
  a173 := Tryd.isAgg127
  z173 := Tryd.sizeOf127
  v173 := Tryd.zeroValue127
  t212 := Tryd.underlying145
  a212 := Tryd.isAgg145
  z212 := Tryd.sizeOf145
  v212 := Tryd.zeroValue145
  t213 := Tryd.underlying147
  a213 := Tryd.isAgg147
  z213 := Tryd.sizeOf147
  t232 := Tryd.underlying162
  a232 := Tryd.isAgg162
  z232 := Tryd.sizeOf162
  v232 := Tryd.zeroValue162
  t233 := Tryd.underlying163
  a233 := Tryd.isAgg163
  z233 := Tryd.sizeOf163
  v233 := Tryd.zeroValue163
  g17 := by kernel_rfl
  g18 := by kernel_rfl
  g19 := by kernel_rfl
  i0 := by kernel_rfl
  i2 := by kernel_rfl
  i3 := by kernel_rfl
  i4 := by kernel_rfl
  i5 := by kernel_rfl
  i9 := by kernel_rfl
  i20 := by kernel_rfl
  i37 := by kernel_rfl
  i46 := by kernel_rfl
  i51 := by kernel_rfl
  i53 := by kernel_rfl
  i171 := by kernel_rfl
  i173 := by kernel_rfl
  i212 := by kernel_rfl
  i232 := by kernel_rfl
  i233 := by kernel_rfl
  m17 := by kernel_rfl
  m18 := by kernel_rfl
  m19 := by kernel_rfl }
/-- the library's table of tens reads as laid -/
def HT (w : World) : Prop := Lib.TabIs Tryd.prog w "internal/strconv.uint64pow10" .u64 Lib.pow10Tab
theorem HT.below {w w' : World} (h : HT w) (hb : Below w.heap.size w w') : HT w' := Lib.tabBelow_of_tabIs h w' hb
def itoaS (n : Int) : ByteArray := ⟨(Lib.itoa n).toArray⟩
theorem itoa_any (n : Int) (h : -9223372036854775808 ≤ n ∧ n ≤ 9223372036854775807) (w : World) (ht : HT w) : Calls Tryd.prog 39 #[.int .i64 n] w fun e w' => e = .returned (.string (itoaS n)) ∧ Below w.heap.size w w' := by
  refine (Any.strconv_Itoa laysItoa n h.1 h.2 w ht).mono ?_
  rintro e w' ⟨rfl, k, os, rfl⟩
  exact ⟨rfl, Lib.below_grow _ w (Nat.le_refl _) k os⟩
def letterS (g : Int) : ByteArray := if g = 0 then ⟨#[76]⟩ else ⟨#[82]⟩
theorem letter_any (g : Int) (w : World) : Calls Tryd.prog 40 #[.int .i64 g] w fun e w' => e = .returned (.string (letterS g)) ∧ Below w.heap.size w w' := by
  refine (QBase.impl_letter.calls g (letterS g) w ?_).mono ?_
  · unfold QBase.impl_letter.f letterS; split <;> rfl
  · rintro e w' ⟨he, h⟩; exact ⟨he, h.below⟩
/-- a mark's line -/
def lineM (m : Mk) : ByteArray := itoaS m.f0 ++ ⟨#[32]⟩ ++ itoaS m.f1 ++ ⟨#[32]⟩ ++ letterS m.f2 ++ ⟨#[10]⟩
def linesM (xs : List Mk) : List Int := xs.flatMap fun m => bytesOf (lineM m)
theorem step_append_str {P : Program} {ops : Array Oper} {o : Oper} {a : Act} {K : Act → World → Prop} {Q : Exit → Act → World → Prop} {w0 W : World} (base : Nat) (hw : Region.wanted o (yielded ops a.tmps) = true) (s x : Operand) (t u e : TypeId)
    (ho : o.op = .call { callee := .builtin .append, args := #[s, x], argTypes := #[t, u] })
    (ht : P.underlying t = some (.slice e)) (hu : P.underlying u = some .string) (hinfo : (P.info? e).map (fun i => (i.zero, i.size, i.bytes)) = some (some (.int .u8 0), 1, 1))
    (v : Value) (xs : List Int) (y : ByteArray) (hs : a.eval s = v) (hx : a.eval x = .string y)
    (HO : W.ownsRow base e 1 v xs.length (nums .u8 xs)) (HB : Below base w0 W) (hbase : base ≤ W.heap.size) (hl : xs.length + y.size ≤ 140737488355328)
    (h : ∀ v1 w1, w1.ownsRow base e 1 v1 (xs ++ bytesOf y).length (nums .u8 (xs ++ bytesOf y)) → Below base w0 w1 → K (a.put o.dst v1) w1) :
    if Region.wanted o (yielded ops a.tmps) = true then Oper.wp P o a W K Q else K (a.put o.dst undef) W := by
  obtain ⟨i0, hi, hzz⟩ := Option.map_eq_some_iff.1 hinfo
  simp only [Prod.mk.injEq] at hzz
  obtain ⟨hz0, hz1, hz2⟩ := hzz
  rw [if_pos hw]
  obtain ⟨v', w', hr, h2, h3, h4⟩ := Lib.run_append_own_string (P := P) W base t u o.type e i0 ht hu hi hz0 hz1 hz2 v xs.length (nums .u8 xs) HO y (by simp only [maxLen]; omega) hl hbase
  unfold Oper.wp execOp
  simp only [ho, resolve, invoke, builtin, Sem.run_bind, Sem.run_pure, Result.andThen_ok, List.map_toArray, List.map_cons, List.map_nil, hs, hx, hr]
  have hl2 : (xs ++ bytesOf y).length = xs.length + y.size := by rw [List.length_append, bytesOf_length]
  have hc : nums .u8 (xs ++ bytesOf y) = nums .u8 xs ++ Lib.strCells y := by
    rw [nums_append]
    congr 1
    simp [nums, bytesOf, Lib.strCells]
  exact h v' w' (by rw [hl2, hc]; exact h2) (HB.grown h3 hbase (own_base HO))
theorem own_low {w : World} {B B' : Nat} {e : TypeId} {size : Nat} {v : Value} {n : Nat} {xs : List Value} (h : w.ownsRow B e size v n xs) (hb : B' ≤ B) : w.ownsRow B' e size v n xs := by
  obtain ⟨hl, h0 | ⟨g, cap, cur, hv, hg, r⟩⟩ := h
  · exact ⟨hl, .inl h0⟩
  · exact ⟨hl, .inr ⟨g, cap, cur, hv, Nat.le_trans hb hg, r⟩⟩
/-- what a round keeps -/
structure RdE (w0 : World) (gb : Nat) (x : Mk) (v : Value) (out : List Int) (w : World) : Prop where
  c0 : w.cell? ⟨gb, 0, none⟩ = some (.int .i64 x.f0)
  c1 : w.cell? ⟨gb, 1, none⟩ = some (.int .i64 x.f1)
  c2 : w.cell? ⟨gb, 2, none⟩ = some (.int .i64 x.f2)
  own : w.ownsRow w0.heap.size 5 1 v out.length (nums .u8 out)
  bel : Below w0.heap.size w0 w
theorem RdE.below {w0 : World} {gb : Nat} {x : Mk} {v : Value} {out : List Int} {w w1 : World} (h : RdE w0 gb x v out w) (hb : Below w.heap.size w w1) : RdE w0 gb x v out w1 := by
  have k : ∀ {a : Addr} {v : Value}, w.cell? a = some v → w1.cell? a = some v := fun e => (hb.cell (World.block_lt_of_cell? w _ e)).trans e
  exact ⟨k h.c0, k h.c1, k h.c2, pw_own_below h.own hb, below_step h.bel hb⟩
theorem RdE.drew {w0 : World} {gb : Nat} {x : Mk} {v : Value} {out : List Int} {w : World} (h : RdE w0 gb x v out w) : RdE w0 gb x v out w.drew := h.below (Below.refl _ w).drew
theorem infoB : (Tryd.prog.info? 5).map (fun i => (i.zero, i.size, i.bytes)) = some (some (.int .u8 0), 1, 1) := by kernel_rfl
theorem itoaS_size (n : Int) (h : -9223372036854775808 ≤ n ∧ n ≤ 9223372036854775807) : (itoaS n).size ≤ 21 := by
  have := Lib.itoa_length_le n h.1 h.2
  simpa [itoaS, ByteArray.size] using this
theorem lineM_size (m : Mk) (h0 : -9223372036854775808 ≤ m.f0 ∧ m.f0 ≤ 9223372036854775807) (h1 : -9223372036854775808 ≤ m.f1 ∧ m.f1 ≤ 9223372036854775807) : (lineM m).size ≤ 64 := by
  have e0 := itoaS_size m.f0 h0
  have e1 := itoaS_size m.f1 h1
  have e2 : (letterS m.f2).size ≤ 1 := by unfold letterS; split <;> decide
  have c1 : (⟨#[32]⟩ : ByteArray).size = 1 := rfl
  have c2 : (⟨#[10]⟩ : ByteArray).size = 1 := rfl
  unfold lineM
  simp only [ByteArray.size_append, c1, c2]
  omega
theorem okTab_num {xs : List Mk} (h : okTab xs = true) : ∀ m ∈ xs, (-1000000000 ≤ m.f0 ∧ m.f0 ≤ 1000000000) ∧ (0 ≤ m.f1 ∧ m.f1 ≤ 8192) := fun m hm => by
  obtain ⟨i, hi, rfl⟩ := List.mem_iff_getElem.1 hm
  unfold okTab at h
  simp only [Bool.and_eq_true] at h
  have h2 := List.all_eq_true.1 h.2 i (List.mem_range.2 hi)
  unfold okAt at h2
  simp only [Bool.and_eq_true] at h2
  have e : xs.getD i default = xs[i] := by rw [List.getD_eq_getElem?_getD, List.getElem?_eq_getElem hi]; rfl
  have h3 := h2.1
  rw [e] at h3
  unfold goodM at h3
  simp only [Bool.and_eq_true, decide_eq_true_eq] at h3
  exact ⟨h3.1, h3.2.1⟩
theorem linesM_len (xs : List Mk) (h : ∀ m ∈ xs, (-1000000000 ≤ m.f0 ∧ m.f0 ≤ 1000000000) ∧ (0 ≤ m.f1 ∧ m.f1 ≤ 8192)) : (linesM xs).length ≤ 64 * xs.length := by
  induction xs with
  | nil => exact Nat.le_refl _
  | cons x xs ih =>
    have h1 := h x (by simp)
    have h2 := ih fun m hm => h m (List.mem_cons_of_mem _ hm)
    have h3 := lineM_size x (by omega) (by omega)
    unfold linesM at h2 ⊢
    rw [List.flatMap_cons, List.length_append, bytesOf_length, List.length_cons]
    omega
theorem linesM_snoc (xs : List Mk) (i : Nat) (hi : i < xs.length) : linesM (xs.take (i + 1)) = linesM (xs.take i) ++ bytesOf (lineM (xs.getD i default)) := by
  unfold linesM
  rw [List.take_succ_eq_append_getElem hi, List.flatMap_append, List.getD_eq_getElem?_getD, List.getElem?_eq_getElem hi]
  simp
/-- between two rounds: what is out, and what is to come (w0: the world behind opensTable) -/
structure ExAt (w0 : World) (xs : List Mk) (k : Nat) (v5 v20 : Value) (wr : World) : Prop where
  st : ∃ i : Nat, v20 = .int .i64 i ∧ i + k = xs.length ∧ wr.ownsRow w0.heap.size 5 1 v5 (linesM (xs.take i)).length (nums .u8 (linesM (xs.take i)))
  bel : Below w0.heap.size w0 wr
def exportM (xs : List Mk) : List Int := if okTab xs = true then linesM xs else []
def ExPost (w : World) (r : List Int) (e : Ending) (w' : World) : Prop := ∃ v0_ : Value, e = .returned v0_ ∧ w'.ownsRow w.heap.size 5 1 v0_ r.length (nums .u8 r) ∧ Below w.heap.size w w'
set_option maxHeartbeats 8000000 in
set_option maxRecDepth 100000 in
theorem marksExport_any (w : World) (xs : List Mk) (A : Option Addr) (c : Nat) (hm : xs.length ≤ 1048576) (hr : kM.C w A xs.length xs) (hc : xs.length ≤ c) (hwf : ∀ m ∈ xs, (Lit.int .i64 m.f0).wf = true) (ht : HT w) :
    Calls Tryd.prog 11 #[.slice A xs.length c] w (ExPost w (exportM xs)) := by
  have HTL := Aside0.mk ht
  have OT := Aside0.mk (opensTable_any w xs A c hr hc hm hwf)
  clear ht hr hwf
  go_enter Tryd.func11, Tryd.ntmps11
  go_wp2_with fail
  refine OT.out.mono ?_
  rintro e w2 ⟨hb2, tb, v, E, rfl, hT, hE⟩
  have HB2 := Aside0.mk hb2
  have HT2 := Aside0.mk hT
  clear hb2 hT OT
  rcases hE with ⟨ok, rfl⟩ | ⟨nok, hE⟩
  · have OK := Aside0.mk ok
    clear ok
    obtain ⟨A5, c5, rfl⟩ := Kd.R_slice HT2.out.row
    have HTW : Aside0 (∀ W, Below w2.heap.size w2 W → HT W) := ⟨fun W hb => (HTL.out.below HB2.out).below hb⟩
    clear HTL
    have q0 : w2.cell? ⟨tb, 0, none⟩ = some (.slice A5 xs.length c5) := (blk_cell HT2.out.blk 0).trans rfl
    have HR := Aside0.mk (Kd.R_reads' HT2.out.row).2.2
    have HN := Aside0.mk (okTab_num OK.out)
    have AT : Aside0 (ExAt w2 xs xs.length (.slice none 0 0) (.int .i64 0) w2) := ⟨⟨⟨0, rfl, by omega, own_nil _ _ _ _⟩, Below.refl _ _⟩⟩
    go_wp2
    go_loopg [5, 20] xs.length (fun k v5 v20 wr => ExAt w2 xs k v5 v20 wr)
    case atStart => exact AT.out
    case round =>
      clear AT q0
      obtain ⟨⟨i, rfl, hk, hO⟩, hB⟩ := hrel
      have HK := Aside0.mk hk
      have HB := Aside0.mk hB
      have HO := Aside0.mk hO
      clear hk hB hO
      by_cases ci : i < xs.length
      · obtain ⟨ad, ea, hx0, hx1, hx2⟩ := QBase.at_T53 HR.out (i : Int) (by omega) (by omega)
        cases ea
        simp only [Int.toNat_natCast] at hx0 hx1 hx2
        have k0 : ∀ {a : Addr} {v : Value}, w2.cell? a = some v → wr.cell? a = some v := fun e => (HB.out.cell (World.block_lt_of_cell? w2 _ e)).trans e
        replace hx0 := k0 hx0
        replace hx1 := k0 hx1
        replace hx2 := k0 hx2
        clear k0
        have EX := Aside0.mk (show QBase.rd_T53 xs (i : Int) = xs.getD i default by unfold QBase.rd_T53; simp [List.getD, ci])
        have HX := Aside0.mk (HN.out (QBase.rd_T53 xs (i : Int)) (by rw [EX.out, List.getD_eq_getElem?_getD, List.getElem?_eq_getElem ci]; exact List.getElem_mem ci))
        generalize QBase.rd_T53 xs (i : Int) = x at EX HX hx0 hx1 hx2
        have B0 := Aside0.mk (show -9223372036854775808 ≤ x.f0 ∧ x.f0 ≤ 9223372036854775807 by have := HX.out; omega)
        have B1 := Aside0.mk (show -9223372036854775808 ≤ x.f1 ∧ x.f1 ≤ 9223372036854775807 by have := HX.out; omega)
        obtain ⟨out, HOUT⟩ : ∃ out, Aside0 (linesM (xs.take i) = out) := ⟨_, ⟨rfl⟩⟩
        have LL := Aside0.mk (show out.length + (lineM x).size ≤ 140737488355328 by
          have h1 := linesM_len (xs.take i) (fun m hm => HN.out m (List.mem_of_mem_take hm))
          have h2 := lineM_size x B0.out B1.out
          rw [HOUT.out, List.length_take] at h1
          omega)
        rw [HOUT.out] at HO
        have a0 := itoaS_size x.f0 B0.out
        have a1 := itoaS_size x.f1 B1.out
        have a2 : (letterS x.f2).size ≤ 1 := by unfold letterS; split <;> decide
        have t1 := eq_false (show ¬ 9223372036854775807 < (itoaS x.f0).size + 1 by omega)
        have t2 := eq_false (show ¬ 9223372036854775807 < (itoaS x.f0).size + 1 + (itoaS x.f1).size by omega)
        have t3 := eq_false (show ¬ 9223372036854775807 < (itoaS x.f0).size + 1 + (itoaS x.f1).size + 1 by omega)
        have t4 := eq_false (show ¬ 9223372036854775807 < (itoaS x.f0).size + 1 + (itoaS x.f1).size + 1 + (letterS x.f2).size by omega)
        have t5 := eq_false (show ¬ 9223372036854775807 < (itoaS x.f0).size + 1 + (itoaS x.f1).size + 1 + (letterS x.f2).size + 1 by omega)
        clear a0 a1 a2
        go_wp2
        obtain ⟨gb, hgb⟩ : ∃ g, wr.heap.size = g := ⟨_, rfl⟩
        obtain ⟨w9, e9⟩ : ∃ z, wr.alloc (.cells #[.int .i64 x.f0, .int .i64 x.f1, .int .i64 x.f2] 53) = z := ⟨_, rfl⟩
        have z9 : RdE w2 gb x u5 out w9 := by
          subst e9 hgb
          have hb : Below wr.heap.size wr (wr.alloc (.cells #[.int .i64 x.f0, .int .i64 x.f1, .int .i64 x.f2] 53)) := (Below.refl _ wr).alloc (Nat.le_refl _) _
          have hk : (wr.alloc (.cells #[.int .i64 x.f0, .int .i64 x.f1, .int .i64 x.f2] 53)).heap[wr.heap.size]? = some (.cells #[.int .i64 x.f0, .int .i64 x.f1, .int .i64 x.f2] 53 (0, 0)) := by
            show (wr.heap.push _)[wr.heap.size]? = _
            exact Array.getElem?_push_size
          exact ⟨(blk_cell hk 0).trans rfl, (blk_cell hk 1).trans rfl, (blk_cell hk 2).trans rfl, pw_own_below HO.out hb, below_step HB.out hb⟩
        rw [e9, hgb]
        clear e9 hgb hx0 hx1 hx2 HO HB HT2 HR
        refine start_ (n := 17) (S := fun w' => w'.cell? ⟨gb, 0, none⟩ = some (.int .i64 x.f0) ∧ w'.cell? ⟨gb, 1, none⟩ = some (.int .i64 x.f1) ∧ w'.cell? ⟨gb, 2, none⟩ = some (.int .i64 x.f2) ∧ RdE w2 gb x u5 out w') (ds := [15]) #[false, false, false, false, false, false, false, false, false, false, false, false, false, false, false, false, false] (by kernel_rfl) rfl rfl ⟨z9.drew.c0, z9.drew.c1, z9.drew.c2, z9.drew⟩ (fun hHeld => ?_)
        refine pure_ (i := 0) (N := some 24) (v := ?_) (a' := ?_) #[true, false, false, false, false, false, false, false, false, false, false, false, false, false, false, false, false] rfl rfl (by kernel_rfl) (fun _ _ _ h => h) (Or.inl ⟨by rfl, ?_⟩) ?_ ?_
        rotate_left
        · intro w'
          go_simp
          with_reducible rfl
        rotate_left
        · simp only [Act.put, List.setIfInBounds_toArray, List.set_cons_zero, List.set_cons_succ, i64_w, i32_w]
          rfl
        refine pure_ (i := 1) (N := some 25) (v := ?_) (a' := ?_) #[true, true, false, false, false, false, false, false, false, false, false, false, false, false, false, false, false] rfl rfl (by kernel_rfl) (fun _ _ _ h => h) (Or.inl ⟨by rfl, ?_⟩) ?_ ?_
        rotate_left
        · intro w'
          go_simp
          with_reducible rfl
        rotate_left
        · simp only [Act.put, List.setIfInBounds_toArray, List.set_cons_zero, List.set_cons_succ, i64_w, i32_w]
          rfl
        refine pure_ (i := 5) (N := some 29) (v := ?_) (a' := ?_) #[true, true, false, false, false, true, false, false, false, false, false, false, false, false, false, false, false] rfl rfl (by kernel_rfl) (fun _ _ _ h => h) (Or.inl ⟨by rfl, ?_⟩) ?_ ?_
        rotate_left
        · intro w'
          go_simp
          with_reducible rfl
        rotate_left
        · simp only [Act.put, List.setIfInBounds_toArray, List.set_cons_zero, List.set_cons_succ, i64_w, i32_w]
          rfl
        refine pure_ (i := 10) (N := some 34) (v := ?_) (a' := ?_) #[true, true, false, false, false, true, false, false, false, false, true, false, false, false, false, false, false] rfl rfl (by kernel_rfl) (fun _ _ _ h => h) (Or.inl ⟨by rfl, ?_⟩) ?_ ?_
        rotate_left
        · intro w'
          go_simp
          with_reducible rfl
        rotate_left
        · simp only [Act.put, List.setIfInBounds_toArray, List.set_cons_zero, List.set_cons_succ, i64_w, i32_w]
          rfl
        refine take_ (i := 2) (N := some 26) (v := ?_) (a' := ?_) #[true, true, true, false, false, true, false, false, false, false, true, false, false, false, false, false, false] rfl rfl (by kernel_rfl) (fun _ _ _ h => h) (Or.inl ⟨by rfl, ?_⟩) hHeld ?_ ?_
        rotate_left
        · rintro w' ⟨s0, s1, s2, s3⟩
          go_simp
          with_reducible rfl
        rotate_left
        · simp only [Act.put, List.setIfInBounds_toArray, List.set_cons_zero, List.set_cons_succ, i64_w, i32_w]
          rfl
        refine take_ (i := 6) (N := some 30) (v := ?_) (a' := ?_) #[true, true, true, false, false, true, true, false, false, false, true, false, false, false, false, false, false] rfl rfl (by kernel_rfl) (fun _ _ _ h => h) (Or.inl ⟨by rfl, ?_⟩) hHeld ?_ ?_
        rotate_left
        · rintro w' ⟨s0, s1, s2, s3⟩
          go_simp
          with_reducible rfl
        rotate_left
        · simp only [Act.put, List.setIfInBounds_toArray, List.set_cons_zero, List.set_cons_succ, i64_w, i32_w]
          rfl
        refine take_ (i := 11) (N := some 35) (v := ?_) (a' := ?_) #[true, true, true, false, false, true, true, false, false, false, true, true, false, false, false, false, false] rfl rfl (by kernel_rfl) (fun _ _ _ h => h) (Or.inl ⟨by rfl, ?_⟩) hHeld ?_ ?_
        rotate_left
        · rintro w' ⟨s0, s1, s2, s3⟩
          go_simp
          with_reducible rfl
        rotate_left
        · simp only [Act.put, List.setIfInBounds_toArray, List.set_cons_zero, List.set_cons_succ, i64_w, i32_w]
          rfl
        refine one_ (i := 3) (N := some 27) #[true, true, true, true, false, true, true, false, false, false, true, true, false, false, false, false, false] rfl rfl (by kernel_rfl) (by decide) (fun K hK => ?_)
        refine goes_ Tryd.func39 (by kernel_rfl) rfl #[.int .i64 x.f0] (by rfl) rfl rfl (by simp only [List.map_toArray, List.map_cons, List.map_nil]; rfl) ?_
        with_reducible refine (itoa_any x.f0 B0.out _ (HTW.out _ hHeld.2.2.2.bel)).mono ?_
        rintro e w3 ⟨rfl, hb⟩
        refine ⟨_, rfl, ?_⟩
        have z10 := RdE.below hHeld.2.2.2 hb
        refine hK.out _ _ ⟨z10.c0, z10.c1, z10.c2, z10⟩ (fun hHeld => ?_)
        clear hK K
        refine norm_ (a' := ?_) ?_ ?_
        rotate_left
        · show Act.put _ (some 27) _ = _
          simp only [Act.put, List.setIfInBounds_toArray, List.set_cons_zero, List.set_cons_succ, i64_w, i32_w]
          rfl
        refine pure_ (i := 4) (N := some 28) (v := ?_) (a' := ?_) #[true, true, true, true, true, true, true, false, false, false, true, true, false, false, false, false, false] rfl rfl (by kernel_rfl) (fun _ _ _ h => h) (Or.inl ⟨by rfl, ?_⟩) ?_ ?_
        rotate_left
        · intro w'
          go_simp
          with_reducible rfl
        rotate_left
        · simp only [Act.put, List.setIfInBounds_toArray, List.set_cons_zero, List.set_cons_succ, i64_w, i32_w]
          rfl
        refine one_ (i := 7) (N := some 31) #[true, true, true, true, true, true, true, true, false, false, true, true, false, false, false, false, false] rfl rfl (by kernel_rfl) (by decide) (fun K hK => ?_)
        refine goes_ Tryd.func39 (by kernel_rfl) rfl #[.int .i64 x.f1] (by rfl) rfl rfl (by simp only [List.map_toArray, List.map_cons, List.map_nil]; rfl) ?_
        with_reducible refine (itoa_any x.f1 B1.out _ (HTW.out _ hHeld.2.2.2.bel)).mono ?_
        rintro e w3 ⟨rfl, hb⟩
        refine ⟨_, rfl, ?_⟩
        have z10 := RdE.below hHeld.2.2.2 hb
        refine hK.out _ _ ⟨z10.c0, z10.c1, z10.c2, z10⟩ (fun hHeld => ?_)
        clear hK K
        refine norm_ (a' := ?_) ?_ ?_
        rotate_left
        · show Act.put _ (some 31) _ = _
          simp only [Act.put, List.setIfInBounds_toArray, List.set_cons_zero, List.set_cons_succ, i64_w, i32_w]
          rfl
        refine pure_ (i := 8) (N := some 32) (v := ?_) (a' := ?_) #[true, true, true, true, true, true, true, true, true, false, true, true, false, false, false, false, false] rfl rfl (by kernel_rfl) (fun _ _ _ h => h) (Or.inl ⟨by rfl, ?_⟩) ?_ ?_
        rotate_left
        · intro w'
          go_simp
          with_reducible rfl
        rotate_left
        · simp only [Act.put, List.setIfInBounds_toArray, List.set_cons_zero, List.set_cons_succ, i64_w, i32_w]
          rfl
        refine pure_ (i := 9) (N := some 33) (v := ?_) (a' := ?_) #[true, true, true, true, true, true, true, true, true, true, true, true, false, false, false, false, false] rfl rfl (by kernel_rfl) (fun _ _ _ h => h) (Or.inl ⟨by rfl, ?_⟩) ?_ ?_
        rotate_left
        · intro w'
          go_simp
          with_reducible rfl
        rotate_left
        · simp only [Act.put, List.setIfInBounds_toArray, List.set_cons_zero, List.set_cons_succ, i64_w, i32_w]
          rfl
        refine one_ (i := 12) (N := some 36) #[true, true, true, true, true, true, true, true, true, true, true, true, true, false, false, false, false] rfl rfl (by kernel_rfl) (by decide) (fun K hK => ?_)
        refine goes_ Tryd.func40 (by kernel_rfl) rfl #[.int .i64 x.f2] (by rfl) rfl rfl (by simp only [List.map_toArray, List.map_cons, List.map_nil]; rfl) ?_
        with_reducible refine (letter_any x.f2 _).mono ?_
        rintro e w3 ⟨rfl, hb⟩
        refine ⟨_, rfl, ?_⟩
        have z10 := RdE.below hHeld.2.2.2 hb
        refine hK.out _ _ ⟨z10.c0, z10.c1, z10.c2, z10⟩ (fun hHeld => ?_)
        clear hK K
        refine norm_ (a' := ?_) ?_ ?_
        rotate_left
        · show Act.put _ (some 36) _ = _
          simp only [Act.put, List.setIfInBounds_toArray, List.set_cons_zero, List.set_cons_succ, i64_w, i32_w]
          rfl
        refine pure_ (i := 13) (N := some 37) (v := ?_) (a' := ?_) #[true, true, true, true, true, true, true, true, true, true, true, true, true, true, false, false, false] rfl rfl (by kernel_rfl) (fun _ _ _ h => h) (Or.inl ⟨by rfl, ?_⟩) ?_ ?_
        rotate_left
        · intro w'
          go_simp
          with_reducible rfl
        rotate_left
        · simp only [Act.put, List.setIfInBounds_toArray, List.set_cons_zero, List.set_cons_succ, i64_w, i32_w]
          rfl
        refine pure_ (i := 14) (N := some 38) (v := ?_) (a' := ?_) #[true, true, true, true, true, true, true, true, true, true, true, true, true, true, true, false, false] rfl rfl (by kernel_rfl) (fun _ _ _ h => h) (Or.inl ⟨by rfl, ?_⟩) ?_ ?_
        rotate_left
        · intro w'
          go_simp
          with_reducible rfl
        rotate_left
        · simp only [Act.put, List.setIfInBounds_toArray, List.set_cons_zero, List.set_cons_succ, i64_w, i32_w]
          rfl
        refine last_ (i := 15) (N := some 39) #[true, true, true, true, true, true, true, true, true, true, true, true, true, true, true, true, false] rfl rfl (by kernel_rfl) (by decide) (fun K hK => ?_)
        refine step_append_str w2.heap.size (by rfl) (.tmp 24) (.tmp 38) 24 9 5 rfl Tryd.underlying24 Tryd.underlying9 infoB u5 out (lineM x) ?sE ?xE hHeld.2.2.2.own hHeld.2.2.2.bel hHeld.2.2.2.bel.size LL.out ?_
        case sE => rfl
        case xE => first | rfl | (simp only [lineM]; rfl)
        intro v6 w6 hO hb6
        refine hK.out _ _ ?_
        clear hK K
        refine norm_ (a' := ?_) ?_ ?_
        rotate_left
        · show Act.put _ (some 39) _ = _
          simp only [Act.put, List.setIfInBounds_toArray, List.set_cons_zero, List.set_cons_succ, i64_w, i32_w]
          rfl
        refine pure_ (i := 16) (N := some 5) (v := ?_) (a' := ?_) #[true, true, true, true, true, true, true, true, true, true, true, true, true, true, true, true, true] rfl rfl (by kernel_rfl) (fun _ _ _ h => h) (Or.inl ⟨by rfl, ?_⟩) ?_ ?_
        rotate_left
        · intro w'
          go_simp
          with_reducible rfl
        rotate_left
        · simp only [Act.put, List.setIfInBounds_toArray, List.set_cons_zero, List.set_cons_succ, i64_w, i32_w]
          rfl
        refine done_ (by kernel_rfl) ?_
        go_wp2
        go_roundg (xs.length - (i + 1))
        case measure => have := HK.out; omega
        case rel =>
          have hO2 : w6.ownsRow w2.heap.size 5 1 v6 (linesM (xs.take (i + 1))).length (nums .u8 (linesM (xs.take (i + 1)))) := by
            rw [linesM_snoc xs i ci, ← EX.out, HOUT.out]; exact hO
          exact ⟨⟨i + 1, by first | rfl | go_num, by have := HK.out; omega, hO2⟩, hb6⟩
      · have hil : i = xs.length := by have := HK.out; omega
        subst hil
        go_wp2
        go_ret
        have e : exportM xs = linesM xs := by unfold exportM; rw [if_pos OK.out]
        rw [e]
        have hO := HO.out
        rw [List.take_length] at hO
        exact ⟨_, rfl, own_low hO HB2.out.size, HB2.out.trans (HB.out.mono HB2.out.size)⟩
  · obtain ⟨T, x, rfl⟩ := errIs_ev hE
    have NOK := Aside0.mk nok
    clear hE nok
    simp only [ev]
    go_wp2
    go_ret
    have e : exportM xs = [] := by unfold exportM; rw [NOK.out]; rfl
    rw [e]
    exact ⟨_, rfl, own_nil _ _ _ _, HB2.out⟩
namespace Ht
/-- the condition: the library's table of tens reads as laid -/
abbrev HG (w : World) : Prop := HT w
theorem HG.below {w w' : World} (h : HG w) (hb : Below w.heap.size w w') : HG w' := HT.below h hb
end Ht
end Go.Proofs.YtefdjajmnkmbgaaDoor
