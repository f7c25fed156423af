/- A region that draws, in a round of a range over a function; and the reading of a text's stretch (peek), walked. Condition: the text is a valid one. -/
import Derived.StillTail
import Derived.StillTactics
import Derived.Test.YtciabhncmdpeeaaDoorTr11
import Derived.Test.YtciabhncmdpeeaaDoorPs7
namespace Go.Proofs.YtciabhncmdpeeaaDoor
open Go.RowKit Go.Shelf Go.Proofs.YtciabhncmdpeeaaDoorW.PrintWords Go.Proofs.YtciabhncmdpeeaaDoorW.PrintLast Go.Proofs.YtciabhncmdpeeaaDoorW.PrintMore Er
theorem callsIn_round {l n : Nat} {P : Program} {f : FuncId} {args : Array Value} {w : World} {R : Ending → World → Prop} (h : Calls P f args w R) : CallsIn (Fence.wide.inRound l) n P f args w R := callsIn_wide.2 h
theorem rowsIn_round {l n : Nat} {P : Program} {row : String} {args : Array Value} {w : World} {R : Value → World → Prop} (h : Rows P row args w R) : RowsIn (Fence.wide.inRound l) n P row args w R :=
 fun c cs _ => let ⟨v, w', r, s⟩ := h c cs; ⟨v, w', r, stepsIn_wide.2 s⟩
theorem upon_round {l n : Nat} {P : Program} {o : Oper} {a : Act} {K K' : Act → World → Prop} {Q : Exit → Act → World → Prop} {r : Result Next} (hK : ∀ a w, K a w → K' a w) (h : Oper.upon P o a K Q r) : Oper.uponIn (Fence.wide.inRound l) n P o a K' Q r := by
 have hd : (Fence.wide.inRound l).depth.isSome = true → 1 ≤ n := fun e => by simp [Fence.wide] at e
 cases r with
 | ok x w' =>
  cases x <;> simp only [Oper.upon, Oper.uponIn] at h ⊢ <;> first
   | exact hK _ _ h
   | exact h.elim
   | (refine ⟨hd, callsIn_round (h.mono ?_)⟩; intro e w'' he; cases e <;> first | exact hK _ _ he | exact he)
   | exact ⟨hd, rowsIn_round (h.mono fun _ _ he => hK _ _ he)⟩
 | halt x w' => cases x <;> simp only [Oper.upon, Oper.uponIn] at h ⊢ <;> exact h
theorem wpAny_round {l n : Nat} {P : Program} {md : Region.Mode} {ops : Array Oper} {Q : Exit → Act → World → Prop} (hno : ¬ LetsOut Q) (hnd : ∀ (i : Nat) (o : Oper), ops[i]? = some o → ∀ c, o.op ≠ .defer c) :
  ∀ (fuel : Nat) (listed : Array Bool) (a : Act) (w : World), wpAny P md ops Q fuel listed a w → wpAnyIn (Fence.wide.inRound l) n P md ops Q fuel listed a w
 | 0, _, _, _, h => h
 | fuel + 1, listed, a, w, h => ⟨h.1, fun i hi => by
   have h2 := h.2 i hi
   unfold wpOp at h2
   unfold wpOpIn
   cases ho : ops[i]? with
   | none => simp only [ho] at h2; exact wpAny_round hno hnd fuel _ _ _ h2
   | some o =>
    simp only [ho] at h2
    dsimp only
    split at h2
    ·rename_i hw
     rw [if_pos hw]
     refine ⟨fun _ _ => trivial, ?_⟩
     rw [Oper.semAt_eq _ _ _ (hnd i o ho)]
     exact upon_round (fun a w hh => wpAny_round hno hnd fuel _ a w hh) (h2.resolve_right fun h3 => hno h3.2)
    ·rename_i hw
     rw [if_neg hw]
     exact ⟨fun _ _ => trivial, wpAny_round hno hnd fuel _ _ _ h2⟩⟩
def noDefer (ops : Array Oper) : Bool := ops.all fun o => match o.op with | .defer _ => false | _ => true
theorem noDefer_spec {ops : Array Oper} (h : noDefer ops = true) (i : Nat) (o : Oper) (ho : ops[i]? = some o) : ∀ c, o.op ≠ .defer c := by
 intro c hc
 unfold noDefer at h
 have := Array.all_eq_true.1 h i (Array.getElem?_eq_some_iff.1 ho).1
 rw [(Array.getElem?_eq_some_iff.1 ho).2, hc] at this
 cases this
/-- in a round, a region that draws: a quiet head in any order, then a tail in order -/
theorem wpIn_region_tail {r m : Nat} {P : Program} {id : Nat} {Q : Exit → Act → World → Prop} {a : Act} {w : World} {l : List Oper} (n : Nat) (hm : P.follows .mixedOrders = true) (hB : Region.lexTailB .any l.toArray n = true) (hnd : noDefer l.toArray = true) (hno : ¬ LetsOut Q)
  (h : wpStill P l.toArray { w with drawn := w.drawn + 1 } (fun a' => wpList P l.toArray Q (l.drop n) a' { w with drawn := w.drawn + 1 }) (l.take n) a) : (Code.region id l.toArray true).wpIn (Fence.wide.inRound r) m P Q a w := by
 simp only [Region.lexTailB, Bool.and_eq_true, decide_eq_true_eq] at hB
 obtain ⟨⟨⟨⟨hsel, hn⟩, hs⟩, hc⟩, hlex⟩ := hB
 have hn' : n < l.length := by simpa using hn
 have htl : (l.take n).length = n := by simp; omega
 have hdl : (l.drop n).length = l.toArray.size - n := by simp
 have inv0 : HeadInv .any l.toArray n (Array.replicate l.toArray.size false) :=
  ⟨by simp, fun j oj _ hl => (by rw [getD_replicate_false] at hl; cases hl), fun t _ ht => getD_in (by simpa using ht) (getD_replicate_false _ _)⟩
 have H := wpAnyL_lex (md := .any) (g := l.toArray.size - n) hsel hs hc hn (l.take n) 0 _ a (fun j hj => by
  have hj' : j < n := by rw [htl] at hj; exact hj
  simp [hj']) (by simpa using htl) inv0 (by rw [htl]; exact hlex) h
 refine wpIn_region_any hm (wpAny_round hno (noDefer_spec hnd) _ _ _ _ ?_)
 have := wpAny_of_head (Q' := Q) (g := l.toArray.size - n) (fun listed a' hL => by
  have := wpAny_of_seq (md := .any) (Q' := Q) (l.drop n) n listed a' { w with drawn := w.drawn + 1 } (fun j => by simp [List.getElem?_drop]) (by rw [hdl]; exact hL.1) hL.2
  rwa [hdl] at this) _ _ _ H
 rw [htl, show n + (l.toArray.size - n) = l.toArray.size by omega] at this
 exact this

attribute [local go_sem] Oper.semAt_some
set_option maxRecDepth 100000 in
set_option maxHeartbeats 4000000 in
theorem walk_x (F : Fence) (hd : F.depth = none) (h6 : F.fn 132) (hro : F.round = none) (l n₀ N : Nat) (X : Pc × Int → Prop) (J Jx : List (Pc × Int) → World → Prop)
  (hY : ∀ m pre x W, X x → J pre W → pre.length < N → YieldAt F m Tryd.prog l (yv x) W fun e W' =>
   (e = .returned (.bool true) ∧ J (pre ++ [x]) W' ∧ Below n₀ W W') ∨ (e = .returned (.bool false) ∧ Jx (pre ++ [x]) W')) (T : Tree) :
  ∀ (n : Nat) (p : Option Nat) (S : List Nat) (k : Int) (pre : List (Pc × Int)) (W : World), Rep W T p S → (∀ x ∈ TP.flat T k, X x) → (∀ b ∈ S, b < n₀) → -1000000000 ≤ k → k + TP.hgt T ≤ 1000000000 → J pre W → pre.length + TP.cnt T ≤ N →
   CallsIn F n Tryd.prog 132 #[ptrV p, .int .i64 k, .func (.yield l) #[] #[]] W fun e W' =>
    (e = .returned (.bool true) ∧ J (pre ++ TP.flat T k) W' ∧ Below n₀ W W') ∨ (e = .returned (.bool false) ∧ ∃ q, q <+: TP.flat T k ∧ Jx (pre ++ q) W') := by
 induction T with
 | nil =>
  intro n p S k pre W ht _ hS hk0 hk1 hJ _
  obtain ⟨rfl, rfl⟩ := ht
  refine callsIn_of_wp Tryd.func132 rfl h6 ?_ hro
  simp only [Tryd.ntmps132, List.size_toArray, List.length_cons, List.length_nil, Nat.reduceAdd, Nat.reduceSub, Array.replicate_succ, Array.replicate_zero, List.push_toArray, List.append_toArray, List.nil_append, List.cons_append]
  simp only [ptrV, adr]
  gi_wp2
  all_goals first
   | exact undef_bool (by assumption)
   | (refine ⟨fun _ h => (by cases h), ?_⟩; gi_wp2; go_ret; exact .inl ⟨rfl, by simpa [TP.flat] using hJ, Below.refl _ _⟩)
 | node tl v tr ihl ihr =>
  intro n p S k pre W ht hX hS hk0 hk1 hJ hN
  obtain ⟨b, pl, pr, Sl, Sr, rfl, rfl, hb, hl, hr⟩ := ht
  have hdd : ∀ k : Nat, (F.depth.isSome = true → 1 ≤ k) := fun k h => by rw [hd] at h; cases h
  simp only [TP.cnt] at hN
  simp only [TP.hgt] at hk1
  have hbS : b < n₀ := hS b (by simp)
  have hlS : ∀ x ∈ Sl, x < n₀ := fun x hx => hS x (by simp [hx])
  have hrS : ∀ x ∈ Sr, x < n₀ := fun x hx => hS x (by simp [hx])
  have cells : ∀ W1, Below n₀ W W1 → W1.cell? ⟨b, 0, none⟩ = some (ptrV pl) ∧ W1.cell? ⟨b, 1, none⟩ = some (ptrV pr) ∧ W1.cell? ⟨b, 2, none⟩ = some (.int .i64 v.off) ∧ W1.cell? ⟨b, 3, none⟩ = some (.int .i64 v.len) ∧ W1.cell? ⟨b, 4, none⟩ = some (.int .i64 v.brk) := fun W1 hb1 => by
   have h1 := hb.belowS hbS hb1
   exact ⟨(blk_cell h1 0).trans rfl, (blk_cell h1 1).trans rfl, (blk_cell h1 2).trans rfl, (blk_cell h1 3).trans rfl, (blk_cell h1 4).trans rfl⟩
  obtain ⟨c0, -, -, -, -⟩ := cells W (Below.refl _ _)
  have hy2 : ∀ W1, J (pre ++ TP.flat tl (k + 1)) W1 → Below n₀ W W1 → YieldAt F (n - 1) Tryd.prog l (yv (v, k)) W1 fun e W2 =>
    (e = .returned (.bool true) ∧ J (pre ++ TP.flat tl (k + 1) ++ [(v, k)]) W2 ∧ Below n₀ W W2 ∧ W2.cell? ⟨b, 1, none⟩ = some (ptrV pr) ∧ Rep W2 tr pr Sr) ∨ (e = .returned (.bool false) ∧ Jx (pre ++ TP.flat tl (k + 1) ++ [(v, k)]) W2) := fun W1 hJ1 hb1 =>
   YieldAt.mono (hY (n - 1) _ (v, k) W1 (hX _ (by simp [TP.flat])) hJ1 (by simp [TP.flat_length]; omega)) fun e W2 h => h.elim
    (fun ⟨he, hj, hb2⟩ => .inl ⟨he, hj, hb1.trans hb2, (cells W2 (hb1.trans hb2)).2.1, hr.belowS hrS (hb1.trans hb2)⟩) .inr
  have ih1 := (ihl (n - 1) pl Sl (k + 1) pre W hl (fun x hx => hX x (by simp [TP.flat, hx])) hlS (by omega) (by omega) hJ (by omega)).mono (R' := fun e W1 =>
    (e = .returned (.bool true) ∧ (W1.cell? ⟨b, 2, none⟩ = some (.int .i64 v.off) ∧ W1.cell? ⟨b, 3, none⟩ = some (.int .i64 v.len) ∧ W1.cell? ⟨b, 4, none⟩ = some (.int .i64 v.brk)) ∧ YieldAt F (n - 1) Tryd.prog l (yv (v, k)) W1 fun e W2 =>
     (e = .returned (.bool true) ∧ J (pre ++ TP.flat tl (k + 1) ++ [(v, k)]) W2 ∧ Below n₀ W W2 ∧ W2.cell? ⟨b, 1, none⟩ = some (ptrV pr) ∧ Rep W2 tr pr Sr) ∨ (e = .returned (.bool false) ∧ Jx (pre ++ TP.flat tl (k + 1) ++ [(v, k)]) W2)) ∨
    (e = .returned (.bool false) ∧ ∃ q, q <+: TP.flat tl (k + 1) ∧ Jx (pre ++ q) W1))
   (fun e W1 h => h.elim (fun ⟨he, hj, hb1⟩ => .inl ⟨he, (cells W1 hb1).2.2, hy2 W1 hj hb1⟩) .inr)
  clear hy2 ihl cells
  refine callsIn_of_wp Tryd.func132 rfl h6 ?_ hro
  simp only [Tryd.ntmps132, List.size_toArray, List.length_cons, List.length_nil, Nat.reduceAdd, Nat.reduceSub, Array.replicate_succ, Array.replicate_zero, List.push_toArray, List.append_toArray, List.nil_append, List.cons_append]
  simp only [ptrV, adr]
  gi_wp2_with (first
   | ((try refine ⟨hdd _, ?_⟩); gi_at_call 132; refine ih1.mono ?_; clear ih1; rintro e W1 (⟨rfl, ⟨c2', c3', c4'⟩, fn, tmps, assign, body, hy, hR⟩ | ⟨rfl, q, hq, hx1⟩))
   | ((try refine ⟨hdd _, ?_⟩); refine hR.mono ?_; clear hR; rintro e W2 (⟨rfl, hJ2, hb2, c1', hr2⟩ | ⟨rfl, hx2⟩))
   | ((try refine ⟨hdd _, ?_⟩); gi_at_call 132; refine (ihr (n - 1) pr Sr (k + 1) _ _ hr2 (fun x hx => hX x (by simp [TP.flat, hx])) hrS (by omega) (by omega) hJ2 (by simp [TP.flat_length]; omega)).mono ?_; rintro e W3 (⟨rfl, hJ3, hb3⟩ | ⟨rfl, q, hq, hx3⟩)))
  ·go_ret
   exact .inl ⟨rfl, by simpa [TP.flat, List.append_assoc] using hJ3, hb2.trans hb3⟩
  ·go_ret
   obtain ⟨r, hr'⟩ := hq
   exact .inr ⟨rfl, TP.flat tl (k + 1) ++ (v, k) :: q, ⟨r, by simp [TP.flat, ← hr']⟩, by simpa [List.append_assoc] using hx3⟩
  ·go_ret
   exact .inr ⟨rfl, TP.flat tl (k + 1) ++ [(v, k)], ⟨TP.flat tr (k + 1), by simp [TP.flat]⟩, by simpa [List.append_assoc] using hx2⟩
  all_goals first
   | exact undef_bool (by assumption)
   | (refine ⟨fun _ h => (by cases h), ?_⟩; gi_wp2; go_ret; exact .inr ⟨rfl, q, hq.trans (by simp [TP.flat]), hx1⟩)
set_option maxRecDepth 100000 in
set_option maxHeartbeats 1000000 in
theorem all1_x (F : Fence) (hd : F.depth = none) (n : Nat) (h5 : F.fn 131) (h6 : F.fn 132) (hro : F.round = none) (l Bt n₀ : Nat) (p0 : Option Nat) (S : List Nat) (T : Tree) (X : Pc × Int → Prop) (J Jx : List (Pc × Int) → World → Prop)
  (hY : ∀ pre x W, X x → J pre W → pre.length < TP.cnt T → YieldAt F (n - 1) Tryd.prog l (yv x) W fun e W' =>
   (e = .returned (.bool true) ∧ J (pre ++ [x]) W' ∧ Below n₀ W W') ∨ (e = .returned (.bool false) ∧ Jx (pre ++ [x]) W'))
  (W : World) (hBt : W.cell? ⟨Bt, 0, none⟩ = some (ptrV p0)) (hT : Rep W T p0 S) (hX : ∀ x ∈ TP.flat T 0, X x) (hS : ∀ b ∈ S, b < n₀) (hc : TP.cnt T ≤ 1000000) (h0 : J [] W) :
  CallsIn F n Tryd.prog 131 #[.func (.yield l) #[] #[], .pointer (some ⟨Bt, 0, none⟩)] W fun e W' => (∃ v, e = .returned v) ∧
   ((∃ ys, ys = TP.flat T 0 ∧ J ys W') ∨ (∃ pre, pre <+: TP.flat T 0 ∧ Jx pre W')) := by
 have hdd : ∀ k : Nat, (F.depth.isSome = true → 1 ≤ k) := fun k h => by rw [hd] at h; cases h
 have hp := walk_x F hd h6 hro l n₀ (TP.cnt T) X J Jx (fun m pre x W hx hj hl => YieldAt.any_ hd m (hY pre x W hx hj hl)) T (n - 1) p0 S 0 [] W hT hX hS (by omega) (by have := TP.hgt_le T; omega) h0 (by simp)
 refine callsIn_of_wp Tryd.func131 rfl h5 ?_ hro
 simp only [Tryd.ntmps131, List.size_toArray, List.length_cons, List.length_nil, Nat.reduceAdd, Nat.reduceSub, Array.replicate_succ, Array.replicate_zero, List.push_toArray, List.append_toArray, List.nil_append, List.cons_append]
 gi_wp2_with ((try refine ⟨hdd _, ?_⟩); gi_at_call 132; refine hp.mono ?_; clear hp; rintro e W1 (⟨rfl, hJ1, _⟩ | ⟨rfl, q, hq, hx⟩))
 ·go_end0
  exact ⟨⟨_, rfl⟩, .inl ⟨_, rfl, by simpa using hJ1⟩⟩
 ·go_end0
  exact ⟨⟨_, rfl⟩, .inr ⟨q, hq, by simpa using hx⟩⟩
theorem all_stops_x (F : Fence) (hd : F.depth = none) (n : Nat) (h5 : F.fn 131) (h6 : F.fn 132) (hro : F.round = none) (Bt n₀ : Nat) (p0 : Option Nat) (S : List Nat) (T : Tree) (w : World) (hBt : Bt < w.heap.size) (hn₀ : n₀ ≤ w.heap.size)
  (hc : w.cell? ⟨Bt, 0, none⟩ = some (ptrV p0)) (hT : Rep w T p0 S) (hS : ∀ b ∈ S, b < n₀) (hk : TP.cnt T ≤ 1000000) :
  SeqStopsK F n Tryd.prog 131 #[.pointer (some ⟨Bt, 0, none⟩)] (fun x : {x // x ∈ TP.flat T 0} => yv x.1) (Below n₀) (fun ys => ys.map Subtype.val = TP.flat T 0) (fun pre => pre.map Subtype.val <+: TP.flat T 0) (TP.cnt T) w := fun l J Jx W hW _ _ hY h0 => by
 have h := all1_x F hd n h5 h6 hro l Bt n₀ p0 S T (fun x => x ∈ TP.flat T 0) (fun pre W => ∃ pre' : List {x // x ∈ TP.flat T 0}, pre'.map Subtype.val = pre ∧ J pre' W) (fun pre W => ∃ pre' : List {x // x ∈ TP.flat T 0}, pre'.map Subtype.val = pre ∧ Jx pre' W)
  (fun pre x W hx hj hl => by
   obtain ⟨pre', rfl, hj⟩ := hj
   exact YieldAt.mono (hY pre' ⟨x, hx⟩ W hj (by simpa using hl)) fun e W2 h2 => h2.elim (fun ⟨a, b, c⟩ => .inl ⟨a, ⟨_, by simp, b⟩, c⟩) (fun ⟨a, b⟩ => .inr ⟨a, ⟨_, by simp, b⟩⟩))
  W ((hW.cell (p := ⟨Bt, 0, none⟩) hBt).trans hc) (hT.belowS hS (hW.mono hn₀)) (fun x hx => hx) hS hk ⟨[], rfl, h0⟩
 refine h.mono ?_
 rintro e W1 ⟨⟨v, hv⟩, h1⟩
 refine ⟨⟨v, hv⟩, h1.elim (fun ⟨ys, e1, pre', e2, h2⟩ => .inl ⟨pre', e2.trans e1, h2⟩) (fun ⟨pre, e1, pre', e2, h2⟩ => .inr ⟨pre', by show pre'.map Subtype.val <+: _; rw [e2]; exact e1, h2⟩)⟩
/-- in a round, a region that draws and is quiet -/
theorem wpIn_region_lex {r m : Nat} {P : Program} {id : Nat} {Q : Exit → Act → World → Prop} {a : Act} {w : World} {l : List Oper} (hm : P.follows .mixedOrders = true) (hB : Region.lexB .any l.toArray = true) (hnd : noDefer l.toArray = true) (hno : ¬ LetsOut Q)
  (h : wpStill P l.toArray { w with drawn := w.drawn + 1 } (fun a' => Q .normal a' { w with drawn := w.drawn + 1 }) l a) : (Code.region id l.toArray true).wpIn (Fence.wide.inRound r) m P Q a w := by
 simp only [Region.lexB, Bool.and_eq_true] at hB
 refine wpIn_region_any hm (wpAny_round hno (noDefer_spec hnd) _ _ _ _ (wpAny_of_still (Q := fun a' => Q .normal a' { w with drawn := w.drawn + 1 }) (fun _ h => h) _ _ _ ?_))
 have := wpAnyS_lex (md := .any) hB.1 l 0 (Array.replicate l.toArray.size false) a (by simp) (by simpa using hB.2) h
 simpa using this
theorem i64_in_ (n : Int) (h : -9223372036854775808 ≤ n ∧ n ≤ 9223372036854775807) : IntKind.i64.wrap n = n := by rw [IntKind.wrap_i64]; omega
theorem letsOut_then {K : Act → World → Prop} {Q : Exit → Act → World → Prop} (h : ¬ LetsOut Q) : ¬ LetsOut (Exit.then K Q) := fun ⟨a, w, h1⟩ => h ⟨a, w, h1⟩
/-- what of a text has been read: its pieces so far, cut -/
def pk (T : List Int) (lo hi : Int) (pre : List (Pc × Int)) : List Int := ((txtOf T (pre.map Prod.fst)).take hi.toNat).drop lo.toNat
def pl (T : List Int) (pre : List (Pc × Int)) : Int := (txtOf T (pre.map Prod.fst)).length
theorem pl_snoc (T : List Int) (pre : List (Pc × Int)) (x : Pc × Int) (h : InStore T x.1) : pl T (pre ++ [x]) = pl T pre + x.1.len := by
 unfold pl
 rw [List.map_append, txtOf_app, List.length_append, Int.natCast_add]
 simp only [List.map_cons, List.map_nil, txtOf_cons]
 rw [List.length_append, show txtOf T [] = [] from rfl, List.length_nil, Nat.add_zero, ptext_len h]
theorem take_drop_app (A B : List Int) (lo hi : Nat) (h : A.length < hi) : ((A ++ B).take hi).drop lo = (A.take hi).drop lo ++ (B.take (hi - A.length)).drop (lo - A.length) := by
 rw [List.take_append, List.take_of_length_le (by omega : A.length ≤ hi), List.drop_append]
theorem pk_snoc (T : List Int) (lo hi : Int) (pre : List (Pc × Int)) (x : Pc × Int) (_h : InStore T x.1) (_h0 : 0 ≤ lo) (h2 : pl T pre < hi) :
  pk T lo hi (pre ++ [x]) = pk T lo hi pre ++ ((ptext T x.1).take (hi - pl T pre).toNat).drop (lo - pl T pre).toNat := by
 unfold pk pl at *
 rw [List.map_append, txtOf_app]
 simp only [List.map_cons, List.map_nil, txtOf_cons]
 rw [show txtOf T [] = [] from rfl, List.append_nil, take_drop_app _ _ _ _ (by omega)]
 congr 2 <;> first | omega | (congr 1; omega)
theorem pk_done (T : List Int) (lo hi : Int) (pre r : List (Pc × Int)) (h : hi ≤ pl T pre) : pk T lo hi (pre ++ r) = pk T lo hi pre := by
 unfold pk pl at *
 rw [List.map_append, txtOf_app, List.take_append, show hi.toNat - (txtOf T (pre.map Prod.fst)).length = 0 by omega, List.take_zero, List.append_nil]
theorem pk_len (T : List Int) (lo hi : Int) (pre : List (Pc × Int)) : (pk T lo hi pre).length ≤ hi.toNat := by
 unfold pk; rw [List.length_drop, List.length_take]; omega
/-- the cut of a piece, in the store -/
theorem cut_piece (T : List Int) (x : Pc) (h : InStore T x) (i j : Int) (h0 : 0 ≤ i) (h1 : i < j) (h2 : j ≤ x.len) : ((ptext T x).take j.toNat).drop i.toNat = (T.take (x.off + j).toNat).drop (x.off + i).toNat := by
 obtain ⟨a1, a2, a3, a4⟩ := h
 have e1 : (x.off + x.len).toNat = x.off.toNat + x.len.toNat := by omega
 have e2 : (x.off + i).toNat = x.off.toNat + i.toNat := by omega
 have e3 : (x.off + j).toNat = x.off.toNat + j.toNat := by omega
 unfold ptext
 rw [e1, e2, e3]
 apply List.ext_getElem?
 intro n
 simp only [List.getElem?_drop, List.getElem?_take]
 by_cases c : i.toNat + n < j.toNat
 ·have c2 : x.off.toNat + (i.toNat + n) < x.off.toNat + x.len.toNat := by omega
  have c3 : x.off.toNat + i.toNat + n < x.off.toNat + j.toNat := by omega
  rw [if_pos c, if_pos c2, if_pos c3]
  congr 1; omega
 ·have c3 : ¬ x.off.toNat + i.toNat + n < x.off.toNat + j.toNat := by omega
  rw [if_neg c, if_neg c3]
theorem pl_bd (T : List Int) (pre : List (Pc × Int)) : (∀ x ∈ pre, InStore T x.1) → 0 ≤ pl T pre ∧ pl T pre ≤ 8192 * (pre.length : Int) := by
 induction pre with
 | nil => intro _; simp [pl, txtOf]
 | cons x r ih =>
  intro h
  obtain ⟨a, b⟩ := ih (fun y hy => h y (by simp [hy]))
  have hx := h x (by simp)
  have e := ptext_len hx
  obtain ⟨-, b1, b2, -⟩ := hx
  unfold pl at a b ⊢
  rw [List.map_cons, txtOf_cons, List.length_append]
  simp only [List.length_cons]
  omega
def peekI (w : World) (T : List Int) (b : Nat) (lo hi : Int) (pre : List (Pc × Int)) (W : World) : Prop :=
 (((∃ v, Boxed W (w.heap.size + 1 + 1 + 1) 57 v ∧ W.ownsRow w.heap.size 21 1 v (pk T lo hi pre).length ((pk T lo hi pre).map (Value.int .i32)) ∧ True) ∧ Boxed W (w.heap.size + 1 + 1 + 1 + 1) 3 (.int .i64 (pl T pre))) ∧
  ((Boxed W w.heap.size 110 (.pointer (some ⟨b, 0, none⟩)) ∧ Boxed W (w.heap.size + 1) 3 (.int .i64 lo)) ∧ Boxed W (w.heap.size + 1 + 1) 3 (.int .i64 hi))) ∧ Below w.heap.size w W
def peekX (w : World) (T : List Int) (_b : Nat) (lo hi : Int) (c : Code) (pre : List (Pc × Int)) (W : World) : Prop :=
 c = .exit 0 ∧ hi ≤ pl T pre ∧ ((∃ v, Boxed W (w.heap.size + 1 + 1 + 1) 57 v ∧ W.ownsRow w.heap.size 21 1 v (pk T lo hi pre).length ((pk T lo hi pre).map (Value.int .i32)) ∧ True) ∧ Below w.heap.size w W)
theorem peekI_own (w : World) (T : List Int) (b : Nat) (lo hi : Int) (B : Nat) (hB : w.heap.size ≤ B) : OwnFrom B (peekI w T b lo hi) :=
 OwnFrom.and (OwnFrom.and (OwnFrom.and (Own.from (holdsRow_own w.heap.size (w.heap.size + 1 + 1 + 1) 57 21 1 (fun pre : List (Pc × Int) => (pk T lo hi pre).length) (fun pre => (pk T lo hi pre).map (Value.int .i32)) (fun _ _ => True)) _) (Own.from (boxed_own (w.heap.size + 1 + 1 + 1 + 1) 3 (fun pre : List (Pc × Int) => .int .i64 (pl T pre))) _))
  (OwnFrom.and (OwnFrom.and (Own.from (boxed_own w.heap.size 110 (fun _ => .pointer (some ⟨b, 0, none⟩))) _) (Own.from (boxed_own (w.heap.size + 1) 3 (fun _ => .int .i64 lo)) _)) (Own.from (boxed_own (w.heap.size + 1 + 1) 3 (fun _ => .int .i64 hi)) _))) (ownFrom_below (Nat.le_refl _) hB)
theorem peekX_own (w : World) (T : List Int) (b : Nat) (lo hi : Int) (c : Code) (B : Nat) (hB : w.heap.size ≤ B) : OwnFrom B (peekX w T b lo hi c) := fun s A C row hs hg hr =>
 ⟨hs.1, hs.2.1, (OwnFrom.and (Own.from (holdsRow_own w.heap.size (w.heap.size + 1 + 1 + 1) 57 21 1 (fun pre : List (Pc × Int) => (pk T lo hi pre).length) (fun pre => (pk T lo hi pre).map (Value.int .i32)) (fun _ _ => True)) B) (ownFrom_below (Nat.le_refl _) hB)) s A C row hs.2.2 hg hr⟩
set_option maxRecDepth 100000 in
set_option maxHeartbeats 8000000 in
theorem peek_in (F : Fence) (hF : F = Fence.wide) (n : Nat) (hn : 3 ≤ n) (w : World) (b : Nat) (T : List Int) (t : Tree) (S : List Nat) (lo hi : Int) (h : PB w b T t S) (ok : TxtOk T t) (h0 : 0 ≤ lo) (h1 : lo ≤ hi) (h2 : hi ≤ 10000) :
  CallsIn F n Tryd.prog 89 #[.pointer (some ⟨b, 0, none⟩), .int .i64 lo, .int .i64 hi] w fun e W' => ∃ v, e = .returned v ∧ W'.ownsRow w.heap.size 21 1 v (pk T lo hi (TP.flat t 0)).length ((pk T lo hi (TP.flat t 0)).map (Value.int .i32)) ∧ Below w.heap.size w W' := by
 have hd : F.depth = none := by rw [hF]; rfl
 have hro : F.round = none := by rw [hF]; rfl
 have hfn : ∀ k, F.fn k := by rw [hF]; exact fun _ => trivial
 have HF := Aside0.mk hF
 clear hF
 have h1n : 1 ≤ n := by omega
 obtain ⟨i0, hi0, hz0, hz1, hz2⟩ := info_parts info32
 obtain ⟨A, c, p0, g1, g2, g3, hT⟩ := h.row
 have hk : TP.cnt t ≤ 1000000 := by have := allP_key t ok.allp; have := ok.sum; omega
 refine callsIn_of_wp_marks Tryd.func89 rfl (hfn _) ?_ hro
 simp only [Tryd.ntmps89, List.size_toArray, List.length_cons, List.length_nil, Nat.reduceAdd, Nat.reduceSub, Array.replicate_succ, Array.replicate_zero, List.push_toArray, List.append_toArray, List.nil_append, List.cons_append]
 have HB5 : Below w.heap.size w (((((w.alloc (.cells #[.pointer (some ⟨b, 0, none⟩)] 110)).alloc (.cells #[.int .i64 lo] 3)).alloc (.cells #[.int .i64 hi] 3)).alloc (.cells #[.slice none 0 0] 57)).alloc (.cells #[.int .i64 0] 3)) := (((((Below.refl _ w).alloc (Nat.le_refl _) _).alloc (by simp) _).alloc (by simp; omega) _).alloc (by simp; omega) _).alloc (by simp; omega) _
 have q1 : (((((w.alloc (.cells #[.pointer (some ⟨b, 0, none⟩)] 110)).alloc (.cells #[.int .i64 lo] 3)).alloc (.cells #[.int .i64 hi] 3)).alloc (.cells #[.slice none 0 0] 57)).alloc (.cells #[.int .i64 0] 3)).cell? ⟨b, 1, none⟩ = some (ptrV p0) := (blk_cell (blk_below g1 HB5) 1).trans rfl
 have HTL := Aside0.mk ok.len
 have HCN : Aside0 (TP.cnt t ≤ 8192) := ⟨by have := allP_key t ok.allp; have := ok.sum; omega⟩
 have HPB := Aside0.mk h
 have HOK := Aside0.mk ok
 have HT0 := Aside0.mk hT
 have HG2 := Aside0.mk g2
 have G1 := Aside0.mk g1
 have G3 := Aside0.mk g3
 clear h ok hT g1 g2 g3
 have h4 := hfn 109
 gi_wp2_with (gi_at_call 109; refine (all_in F (n - 1) (hfn _) hro _ _).mono ?_; rintro e w' ⟨rfl, rfl⟩)
 clear q1
 have b0 := (((((Boxed.new w 110 (.pointer (some ⟨b, 0, none⟩))).alloc (.cells #[.int .i64 lo] 3)).alloc (.cells #[.int .i64 hi] 3)).alloc (.cells #[.slice none 0 0] 57)).alloc (.cells #[.int .i64 0] 3)).alloc (.cells #[ptrV p0] 83)
 obtain ⟨wa, hwa⟩ : ∃ y, w.alloc (.cells #[.pointer (some ⟨b, 0, none⟩)] 110) = y := ⟨_, rfl⟩
 have sa : wa.heap.size = w.heap.size + 1 := by rw [← hwa]; simp
 rw [hwa] at b0 HB5 ⊢
 have b1 := ((((Boxed.new wa 3 (.int .i64 lo)).alloc (.cells #[.int .i64 hi] 3)).alloc (.cells #[.slice none 0 0] 57)).alloc (.cells #[.int .i64 0] 3)).alloc (.cells #[ptrV p0] 83)
 obtain ⟨wb, hwb⟩ : ∃ y, wa.alloc (.cells #[.int .i64 lo] 3) = y := ⟨_, rfl⟩
 have sb : wb.heap.size = w.heap.size + 1 + 1 := by rw [← hwb]; simp [sa]
 rw [hwb] at b0 b1 HB5 ⊢
 have b2 := (((Boxed.new wb 3 (.int .i64 hi)).alloc (.cells #[.slice none 0 0] 57)).alloc (.cells #[.int .i64 0] 3)).alloc (.cells #[ptrV p0] 83)
 obtain ⟨wc, hwc⟩ : ∃ y, wb.alloc (.cells #[.int .i64 hi] 3) = y := ⟨_, rfl⟩
 have sc : wc.heap.size = w.heap.size + 1 + 1 + 1 := by rw [← hwc]; simp [sb]
 rw [hwc] at b0 b1 b2 HB5 ⊢
 have b3 := ((Boxed.new wc 57 (.slice none 0 0)).alloc (.cells #[.int .i64 0] 3)).alloc (.cells #[ptrV p0] 83)
 obtain ⟨wd, hwd⟩ : ∃ y, wc.alloc (.cells #[.slice none 0 0] 57) = y := ⟨_, rfl⟩
 have sd : wd.heap.size = w.heap.size + 1 + 1 + 1 + 1 := by rw [← hwd]; simp [sc]
 rw [hwd] at b0 b1 b2 b3 HB5 ⊢
 have b4 := (Boxed.new wd 3 (.int .i64 0)).alloc (.cells #[ptrV p0] 83)
 obtain ⟨we, hwe⟩ : ∃ y, wd.alloc (.cells #[.int .i64 0] 3) = y := ⟨_, rfl⟩
 have se : we.heap.size = w.heap.size + 1 + 1 + 1 + 1 + 1 := by rw [← hwe]; simp [sd]
 rw [hwe] at b0 b1 b2 b3 b4 HB5 ⊢
 have b5 := Boxed.new we 83 (ptrV p0)
 obtain ⟨W0, hW0⟩ : ∃ y, we.alloc (.cells #[ptrV p0] 83) = y := ⟨_, rfl⟩
 have sz : W0.heap.size = w.heap.size + 6 := by rw [← hW0]; simp [se]
 have HB : Below w.heap.size w W0 := by rw [← hW0]; exact HB5.alloc (by omega) _
 rw [hW0] at b0 b1 b2 b3 b4 b5 ⊢
 rw [sa] at b1; rw [sb] at b2; rw [sc] at b3; rw [sd] at b4; rw [se] at b5
 try simp only [sa, sb, sc, sd, se]
 clear hwa hwb hwc hwd hwe hW0 HB5 sa sb sc sd se
 have hTW := HT0.out.below HB
 have hSl : ∀ x ∈ S, x < w.heap.size := HT0.out.lt
 have hins : ∀ x ∈ TP.flat t 0, InStore T x.1 := fun x hx => HOK.out.ins _ (by rw [← TP.flat_toL t 0]; exact List.mem_map_of_mem hx)
 have hpk0 : pk T lo hi ((([] : List {x // x ∈ TP.flat t 0})).map Subtype.val) = [] := by simp [pk, txtOf]
 refine wpIn_rangeFunc_ownH hro h1n (gf := 131) (lb := #[.pointer (some ⟨w.heap.size + 1 + 1 + 1 + 1 + 1, 0, none⟩)]) rfl (hfn _) (enters_of Tryd.func131 (by kernel_rfl) rfl)
  (all_stops_x F hd (n - 1) (hfn _) (hfn _) hro (w.heap.size + 1 + 1 + 1 + 1 + 1) w.heap.size p0 S t W0 (by omega) (by omega) b5.cell hTW hSl hk) belowK_t (belowK_b (by omega)) (Below.refl _ _) (fun _ => rfl)
  (fun pre W => peekI w T b lo hi (pre.map Subtype.val) W) (fun c pre W => peekX w T b lo hi c (pre.map Subtype.val) W) (fun s A B row => peekI_own w T b lo hi _ (by omega) (s.map Subtype.val) A B row) (fun c s A B row => peekX_own w T b lo hi c _ (by omega) (s.map Subtype.val) A B row)
  ⟨⟨⟨⟨_, b3, (by rw [hpk0]; exact World.ownsRow_nil _ _ _ _), trivial⟩, b4⟩, ⟨b0, b1⟩, b2⟩, HB⟩
  (fun x a' W => ∃ Bx, w.heap.size + 1 + 1 + 1 + 1 < Bx ∧ W.heap[Bx]? = some (.cells #[.int .i64 x.1.1.off, .int .i64 x.1.1.len, .int .i64 x.1.1.brk] 50 (0, 0)) ∧ a' = { tmps := #[.pointer (some ⟨b, 0, none⟩), .int .i64 lo, .int .i64 hi, .pointer (some ⟨w.heap.size, 0, none⟩), .pointer (some ⟨w.heap.size + 1, 0, none⟩), .pointer (some ⟨w.heap.size + 1 + 1, 0, none⟩), .slice none 0 0, .pointer (some ⟨w.heap.size + 1 + 1 + 1, 0, none⟩), .pointer (some ⟨w.heap.size + 1 + 1 + 1 + 1, 0, none⟩), .pointer (some ⟨Bx, 0, none⟩), undef, undef, .pointer (some ⟨b, 0, none⟩), .pointer (some ⟨b, 0, none⟩), .pointer (some ⟨b, 1, none⟩), ptrV p0, .func (.func 131) #[] #[.pointer (some ⟨w.heap.size + 1 + 1 + 1 + 1 + 1, 0, none⟩)], .agg #[.int .i64 x.1.1.off, .int .i64 x.1.1.len, .int .i64 x.1.1.brk], .int .i64 x.1.2, undef, undef, undef, undef, undef, undef, undef, undef, undef, undef, undef, undef, undef, undef, undef, undef, undef, undef, undef, undef, undef, undef, undef, undef, undef, undef, undef, undef, undef, undef, undef, undef, undef, undef, undef, undef], defers := [] })
  (fun x a' _ X Y row hs hg hr => by
   obtain ⟨Bx, h1, h2, h3⟩ := hs
   refine ⟨Bx, h1, (hg.block Bx (blk_lt h2) (fun e => ?_)).trans h2, h3⟩
   obtain ⟨_, o, ho, hc⟩ := hr Bx e.symm
   rw [h2] at ho; cases ho; cases hc)
  ?assign ?body ?done ?stop
 case assign =>
  rintro l pre x W K ⟨⟨⟨⟨v, hv, hrow, -⟩, hv4⟩, ⟨hv0, hv1⟩, hv2⟩, hB⟩ hK
  gi_wp2
  exact hK _ _ ((KeepsOthers.alloc _ _).from _) ((Below.refl _ W).alloc hB.size _) ⟨⟨⟨⟨v, hv.alloc _, hrow.alloc _, trivial⟩, hv4.alloc _⟩, ⟨hv0.alloc _, hv1.alloc _⟩, hv2.alloc _⟩, hB.alloc hB.size _⟩ ⟨W.heap.size, hv4.lt, blk_new W _, rfl⟩
 case body =>
  rintro l pre x a' W hl ⟨r, hr⟩ ⟨⟨⟨⟨v, hv, hrow, -⟩, hv4⟩, ⟨hv0, hv1⟩, hv2⟩, hB⟩ ⟨Bx, hBx, bX, rfl⟩ hlt
  obtain ⟨pr, hpr⟩ : ∃ pr, pr = pre.map Subtype.val := ⟨_, rfl⟩
  have hprI : ∀ y ∈ pr, InStore T y.1 := fun y hy => by
   rw [hpr] at hy
   obtain ⟨z, -, rfl⟩ := List.mem_map.1 hy
   exact hins _ z.2
  have hplen : pr.length < TP.cnt t := by rw [hpr, List.length_map]; exact hlt
  obtain ⟨hf0, hf1⟩ := pl_bd T pr hprI
  obtain ⟨x, hxm⟩ := x
  have hin := hins x hxm
  have hps : (pre ++ [(⟨x, hxm⟩ : {x // x ∈ TP.flat t 0})]).map Subtype.val = pr ++ [x] := by rw [List.map_append, ← hpr]; rfl
  have hpl := pl_snoc T pr x hin
  have hno : ¬ LetsOut (ownPostG w.heap.size (Below w.heap.size) (fun pre W => peekI w T b lo hi (pre.map Subtype.val) W) (fun c pre W => peekX w T b lo hi c (pre.map Subtype.val) W) (pre ++ [(⟨x, hxm⟩ : {x // x ∈ TP.flat t 0})]) W) := fun ⟨_, _, hh⟩ => hh
  rw [← hpr] at hrow hv4
  have hFw := HF.out
  subst hFw
  clear HF
  have HPR := Aside0.mk hpr
  clear hpr
  have hc3 := hv.cell
  have hc4 := hv4.cell
  have hc2 := hv2.cell
  have hc1 := hv1.cell
  have hc0 := hv0.cell
  have x0 : W.cell? ⟨Bx, 0, none⟩ = some (.int .i64 x.1.off) := (blk_cell bX 0).trans rfl
  have x1 : W.cell? ⟨Bx, 1, none⟩ = some (.int .i64 x.1.len) := (blk_cell bX 1).trans rfl
  have f4 := hv4.frozen
  by_cases cb : hi ≤ pl T pr
  ·have cbd : decide (hi ≤ pl T pr) = true := decide_eq_true cb
   gi_wp2
   refine ⟨(KeepsOthers.refl W).from _, rfl, ?_, ?_, hB⟩
   ·rw [hps, hpl]; have := hin.2.1; omega
   ·rw [hps, pk_done T lo hi pr [x] cb]; exact ⟨v, hv, hrow, trivial⟩
  ·have cbd : decide (hi ≤ pl T pr) = false := decide_eq_false cb
   gi_wp2
   refine wpIn_region_lex (by kernel_rfl) (by kernel_rfl) (by kernel_rfl) ?hno ?_
   case hno => rintro ⟨_, _, hh⟩; exact hh
   repeat still_step
   refine wpStill_nil ?_
   rw [show ({ heap := W.heap, tape := W.tape, drawn := W.drawn + 1, os := W.os, output := W.output } : World) = W.drew from rfl]
   obtain ⟨Wd, eWd⟩ : ∃ y, W.drew = y := ⟨_, rfl⟩
   rw [eWd]
   have ED := Aside0.mk eWd
   clear eWd
   obtain ⟨in0, in1, in2, in3⟩ := hin
   have hxl := HTL.out
   have hcn := HCN.out
   have wl : IntKind.i64.wrap (lo - pl T pr) = lo - pl T pr := i64_in_ _ (by omega)
   have wh : IntKind.i64.wrap (hi - pl T pr) = hi - pl T pr := i64_in_ _ (by omega)
   rw [wl, wh]
   obtain ⟨i, ei⟩ : ∃ i, (if lo - pl T pr < 0 then 0 else lo - pl T pr) = i := ⟨_, rfl⟩
   obtain ⟨j, ej⟩ : ∃ j, (if x.1.len < hi - pl T pr then x.1.len else hi - pl T pr) = j := ⟨_, rfl⟩
   rw [ei, ej]
   have EI : Aside0 (i = (if lo - pl T pr < 0 then 0 else lo - pl T pr)) := ⟨ei.symm⟩
   have EJ : Aside0 (j = (if x.1.len < hi - pl T pr then x.1.len else hi - pl T pr)) := ⟨ej.symm⟩
   have i0' : 0 ≤ i := by rw [EI.out]; split <;> omega
   have j0' : j ≤ x.1.len := by rw [EJ.out]; split <;> omega
   have EPK : Aside0 (pk T lo hi (pr ++ [x]) = pk T lo hi pr ++ ((ptext T x.1).take j.toNat).drop i.toNat) := ⟨by
    rw [pk_snoc T lo hi pr x ⟨in0, in1, in2, in3⟩ h0 (by omega)]
    have hpx := ptext_len (T := T) (x := x.1) ⟨in0, in1, in2, in3⟩
    congr 1
    rw [EI.out, EJ.out]
    have e1 : (if lo - pl T pr < 0 then 0 else lo - pl T pr).toNat = (lo - pl T pr).toNat := by split <;> omega
    rw [e1]
    congr 1
    by_cases cc : x.1.len < hi - pl T pr
    ·rw [if_pos cc, List.take_of_length_le (by omega), List.take_of_length_le (by omega)]
    ·rw [if_neg cc]⟩
   clear ei ej wl wh cbd
   have fin : ∀ (a'' : Act) (W' : World) (v' : Value), KeepsOthers W W' → Below w.heap.size W W' → Boxed W' (w.heap.size + 1 + 1 + 1) 57 v' → W'.ownsRow w.heap.size 21 1 v' (pk T lo hi (pr ++ [x])).length ((pk T lo hi (pr ++ [x])).map (Value.int .i32)) →
     Boxed W' (w.heap.size + 1 + 1 + 1 + 1) 3 (.int .i64 (pl T pr)) → Boxed W' w.heap.size 110 (.pointer (some ⟨b, 0, none⟩)) → Boxed W' (w.heap.size + 1) 3 (.int .i64 lo) → Boxed W' (w.heap.size + 1 + 1) 3 (.int .i64 hi) →
     ownPostG (w.heap.size + 6) (Below w.heap.size) (fun pre W => peekI w T b lo hi (pre.map Subtype.val) W) (fun c pre W => peekX w T b lo hi c (pre.map Subtype.val) W) (pre ++ [(⟨x, hxm⟩ : {x // x ∈ TP.flat t 0})]) W .normal a'' (W'.setCell ⟨w.heap.size + 1 + 1 + 1 + 1, 0, none⟩ (.int .i64 (pl T pr + x.1.len))) := fun a'' W' v' k1 k2 d3 dr d4 d0 d1 d2 => by
    refine ⟨(k1.trans (KeepsOthers.setCell _ _ _)).from _, k2.setCell (p := ⟨w.heap.size + 1 + 1 + 1 + 1, 0, none⟩) (by show w.heap.size ≤ w.heap.size + 1 + 1 + 1 + 1; omega) _, ?_⟩
    show peekI w T b lo hi ((pre ++ [(⟨x, hxm⟩ : {x // x ∈ TP.flat t 0})]).map Subtype.val) _
    rw [hps]
    have d4' := d4.set (.int .i64 (pl T pr + x.1.len))
    rw [← hpl] at d4' ⊢
    exact ⟨⟨⟨⟨v', d3.other (by omega) _, dr.kept (grownBy_setCell' W' (w.heap.size + 1 + 1 + 1 + 1) _) (.inr (d4.not_row (by decide) dr).symm), trivial⟩, d4'⟩, ⟨d0.other (by omega) _, d1.other (by omega) _⟩, d2.other (by omega) _⟩,
     hB.trans (k2.setCell (p := ⟨w.heap.size + 1 + 1 + 1 + 1, 0, none⟩) (by show w.heap.size ≤ w.heap.size + 1 + 1 + 1 + 1; omega) _)⟩
   have FIN := Aside0.mk fin
   clear fin
   have s9 : IntKind.i64.wrap (pl T pr + x.1.len) = pl T pr + x.1.len := i64_in_ _ (by omega)
   have s9' : wrap64 (pl T pr + x.1.len) = pl T pr + x.1.len := by unfold wrap64; omega
   have e3 : Wd.cell? ⟨w.heap.size + 1 + 1 + 1, 0, none⟩ = some v := by rw [← ED.out]; exact hc3
   have e4 : Wd.cell? ⟨w.heap.size + 1 + 1 + 1 + 1, 0, none⟩ = some (.int .i64 (pl T pr)) := by rw [← ED.out]; exact hc4
   have e4f : Wd.frozen? ⟨w.heap.size + 1 + 1 + 1 + 1, 0, none⟩ = false := by rw [← ED.out]; exact f4
   have e0 : Wd.cell? ⟨w.heap.size, 0, none⟩ = some (.pointer (some ⟨b, 0, none⟩)) := by rw [← ED.out]; exact hc0
   have ex0 : Wd.cell? ⟨Bx, 0, none⟩ = some (.int .i64 x.1.off) := by rw [← ED.out]; exact x0
   have ex1 : Wd.cell? ⟨Bx, 1, none⟩ = some (.int .i64 x.1.len) := by rw [← ED.out]; exact x1
   by_cases cij : i < j
   ·have cd : decide (i < j) = true := decide_eq_true cij
    have hg1 := blk_below G1.out hB
    have e5 : Wd.cell? ⟨b, 0, none⟩ = some (.slice A T.length c) := by rw [← ED.out]; exact (blk_cell hg1 0).trans rfl
    have sw1 : IntKind.i64.wrap (x.1.off + i) = x.1.off + i := i64_in_ _ (by omega)
    have sw2 : IntKind.i64.wrap (x.1.off + j) = x.1.off + j := i64_in_ _ (by omega)
    have g3' := G3.out
    have hcut := cut_mid (P := Tryd.prog) 57 21 .i64 .i64 Tryd.underlying57 (info_parts info32).choose_spec.1 1 (info_parts info32).choose_spec.2.2.1 A T.length c (x.1.off + i) (x.1.off + j) (by omega) (by omega) (by omega) g3'
    obtain ⟨L, hL⟩ : ∃ L : List Int, L = (T.take (x.1.off + j).toNat).drop (x.1.off + i).toNat := ⟨_, rfl⟩
    have hlen : L.length = (x.1.off + j).toNat - (x.1.off + i).toNat := by rw [hL, List.length_drop, List.length_take]; omega
    obtain ⟨A1, hA1⟩ : ∃ A1, A1 = (if c = (x.1.off + i).toNat then A else A.map (·.add ((x.1.off + i).toNat * 1))) := ⟨_, rfl⟩
    obtain ⟨c1, hc1'⟩ : ∃ c1, c1 = c - (x.1.off + i).toNat := ⟨_, rfl⟩
    rw [← hlen, ← hA1, ← hc1'] at hcut
    have hr1 : Kd.C (Kd.int .i32) W A1 L.length L := by
     have h := Kd.C_mid (lo := (x.1.off + i).toNat) (hi := (x.1.off + j).toNat) (c := c) (Kd.C_below HG2.out hB) (by omega) (by omega) g3'
     rw [hL, hA1]; exact h
    have hLL : ((ptext T x.1).take j.toNat).drop i.toNat = L := by rw [hL]; exact cut_piece T x.1 ⟨in0, in1, in2, in3⟩ i j i0' cij j0'
    have hE := EPK.out
    rw [hLL] at hE
    have hLp : 0 < L.length := by omega
    have hLm : L.length ≤ 8192 := by omega
    obtain ⟨-, -, hS⟩ := hr1
    obtain ⟨ad, hA1s, hcs⟩ := hS hLp
    have hsrc : ∀ (k : Nat) (u : Value), (L.map (Value.int .i32))[k]? = some u → Wd.drew.cell? (ad.add k) = some u := fun k u hk => by
     rw [List.getElem?_map] at hk
     obtain ⟨q, hq, rfl⟩ := Option.map_eq_some_iff.1 hk
     obtain ⟨cc, _, hK, hcell⟩ := hcs k q hq
     have hK' : cc = [Value.int .i32 q] := hK
     subst hK'
     have := hcell 0 (Value.int .i32 q) rfl
     rw [← ED.out]
     show W.cell? _ = _
     simpa [Kd.int, Kd.scalar] using this
    rw [hA1s] at hcut
    have hrowd : Wd.drew.ownsRow w.heap.size 21 1 v (pk T lo hi pr).length ((pk T lo hi pr).map (Value.int .i32)) := by rw [← ED.out]; exact hrow
    have hpkl := pk_len T lo hi pr
    have hsW : w.heap.size ≤ Wd.drew.heap.size := by rw [← ED.out]; exact hB.size
    clear hL hlen hA1 hc1' hLL hS hcs
    have HE := Aside0.mk hE
    have HROW := Aside0.mk hrowd
    have HSRC := Aside0.mk hsrc
    clear hE hrowd hsrc
    gi_wp2
    refine wpIn_region_tail 14 (by kernel_rfl) (by kernel_rfl) (by kernel_rfl) ?hno2 ?_
    case hno2 => rintro ⟨_, _, hh⟩; exact hh
    simp only [List.take_succ_cons, List.take_zero, List.drop_succ_cons, List.drop_zero]
    repeat still_step
    refine wpStill_nil ?_
    rw [show ({ heap := Wd.heap, tape := Wd.tape, drawn := Wd.drawn + 1, os := Wd.os, output := Wd.output } : World) = Wd.drew from rfl]
    refine wpList_append_own (Wd.drew) rfl (.tmp 35) (.tmp 48) 57 rfl w.heap.size 21 i0 (.int .i32 0) 1 4 Tryd.underlying57 hi0 hz0 hz1 hz2 rfl (by decide) v _ _ rfl HROW.out ad L.length c1 (L.map (Value.int .i32)) rfl (by simp) HSRC.out (fun u hu => by obtain ⟨q, -, rfl⟩ := List.mem_map.1 hu; rfl) (by unfold maxLen; omega) (by omega) hsW ?_
    intro v' w1 hown' hgrow _
    obtain ⟨Av', cv', rfl⟩ := own_slice hown'
    have d3 : Boxed Wd.drew (w.heap.size + 1 + 1 + 1) 57 v := by rw [← ED.out]; exact hv
    have d4 : Boxed Wd.drew (w.heap.size + 1 + 1 + 1 + 1) 3 (.int .i64 (pl T pr)) := by rw [← ED.out]; exact hv4
    have d0 : Boxed Wd.drew w.heap.size 110 (.pointer (some ⟨b, 0, none⟩)) := by rw [← ED.out]; exact hv0
    have d1 : Boxed Wd.drew (w.heap.size + 1) 3 (.int .i64 lo) := by rw [← ED.out]; exact hv1
    have d2 : Boxed Wd.drew (w.heap.size + 1 + 1) 3 (.int .i64 hi) := by rw [← ED.out]; exact hv2
    have dX : Wd.drew.heap[Bx]? = some (.cells #[.int .i64 x.1.off, .int .i64 x.1.len, .int .i64 x.1.brk] 50 (0, 0)) := by rw [← ED.out]; exact bX
    have hneX : some Bx ≠ v.ownBlock := fun e => by
     rcases HROW.out.2 with ⟨rfl, _⟩ | ⟨g, cap, cur, rfl, _, hgb, _⟩
     ·simp [Value.ownBlock] at e
     ·obtain rfl : g = Bx := by simpa [Value.ownBlock] using e.symm
      rw [dX] at hgb; cases hgb
    have k3 := d3.kept hgrow (d3.not_row (by decide) HROW.out)
    have k4 := d4.kept hgrow (d4.not_row (by decide) HROW.out)
    have k0 := d0.kept hgrow (d0.not_row (by decide) HROW.out)
    have k1 := d1.kept hgrow (d1.not_row (by decide) HROW.out)
    have k2 := d2.kept hgrow (d2.not_row (by decide) HROW.out)
    have kX := (hgrow.block Bx (blk_lt dX) hneX).trans dX
    have hko : KeepsOthers W w1 := by
     refine KeepsOthers.trans (B := Wd.drew) (by rw [← ED.out]; exact (KeepsOthers.drew W).trans (KeepsOthers.drew _)) (KeepsOthers.of_grownBy hgrow fun j o ej hj => ?_)
     rcases HROW.out.2 with ⟨rfl, _⟩ | ⟨g, cap, cur, rfl, _, hgb, _⟩
     ·simp [Value.ownBlock] at ej
     ·obtain rfl : g = j := by simpa [Value.ownBlock] using ej
      rw [hgb] at hj; cases hj; rfl
    have hbl : Below w.heap.size W w1 := by
     refine Below.grown (by rw [← ED.out]; exact ((Below.refl _ W).drew).drew) hgrow hsW fun j ej => ?_
     rcases HROW.out.2 with ⟨rfl, _⟩ | ⟨g, cap, cur, rfl, hb, _, _⟩
     ·simp [Value.ownBlock] at ej
     ·obtain rfl : g = j := by simpa [Value.ownBlock] using ej
      exact hb
    have kc3 := k3.cell
    have kf3 := k3.frozen
    go_wp2
    obtain ⟨w2, e2⟩ : ∃ y, w1.setCell ⟨w.heap.size + 1 + 1 + 1, 0, none⟩ (.slice Av' ((pk T lo hi pr).length + L.length) cv') = y := ⟨_, rfl⟩
    rw [e2]
    have E2 := Aside0.mk e2
    clear e2
    have m3 := k3.set (.slice Av' ((pk T lo hi pr).length + L.length) cv')
    have m4 := k4.other (B' := w.heap.size + 1 + 1 + 1) (by omega) (.slice Av' ((pk T lo hi pr).length + L.length) cv')
    have m0 := k0.other (B' := w.heap.size + 1 + 1 + 1) (by omega) (.slice Av' ((pk T lo hi pr).length + L.length) cv')
    have m1 := k1.other (B' := w.heap.size + 1 + 1 + 1) (by omega) (.slice Av' ((pk T lo hi pr).length + L.length) cv')
    have m2 := k2.other (B' := w.heap.size + 1 + 1 + 1) (by omega) (.slice Av' ((pk T lo hi pr).length + L.length) cv')
    have mr := hown'.kept (grownBy_setCell' w1 (w.heap.size + 1 + 1 + 1) (.slice Av' ((pk T lo hi pr).length + L.length) cv')) (.inr (k3.not_row (by decide) hown').symm)
    have mko := hko.trans (KeepsOthers.setCell w1 ⟨w.heap.size + 1 + 1 + 1, 0, none⟩ (.slice Av' ((pk T lo hi pr).length + L.length) cv'))
    have mbl := hbl.setCell (p := ⟨w.heap.size + 1 + 1 + 1, 0, none⟩) (by show w.heap.size ≤ w.heap.size + 1 + 1 + 1; omega) (.slice Av' ((pk T lo hi pr).length + L.length) cv')
    have mX : (w1.setCell ⟨w.heap.size + 1 + 1 + 1, 0, none⟩ (.slice Av' ((pk T lo hi pr).length + L.length) cv')).heap[Bx]? = some (.cells #[.int .i64 x.1.off, .int .i64 x.1.len, .int .i64 x.1.brk] 50 (0, 0)) := ((grownBy_setCell' w1 (w.heap.size + 1 + 1 + 1) (.slice Av' ((pk T lo hi pr).length + L.length) cv')).block Bx (blk_lt kX) (fun e => by injection e; omega)).trans kX
    rw [E2.out] at m3 m4 m0 m1 m2 mr mko mbl mX
    have mc4 := m4.cell
    have mf4 := m4.frozen
    have mx1 : w2.cell? ⟨Bx, 1, none⟩ = some (.int .i64 x.1.len) := (blk_cell mX 1).trans rfl
    clear e3 e4 e4f e0 ex0 ex1 kc3 kf3 e5
    gi_wp2
    have hEE := HE.out
    have F2 := fun a'' => FIN.out a'' w2 (.slice Av' ((pk T lo hi pr).length + L.length) cv') mko mbl m3 (by rw [hEE, List.length_append, List.map_append]; exact mr) m4 m0 m1 m2
    first | exact F2 _ | (rw [sz]; exact F2 _)
   ·have cd : decide (i < j) = false := decide_eq_false cij
    gi_wp2
    have hnil : ((ptext T x.1).take j.toNat).drop i.toNat = [] := List.drop_eq_nil_of_le (by rw [List.length_take]; omega)
    have hE := EPK.out
    rw [hnil, List.append_nil] at hE
    rw [← ED.out]
    exact FIN.out _ W.drew v (KeepsOthers.drew W) ((Below.refl _ W).drew) hv (by rw [hE]; exact hrow) hv4 hv0 hv1 hv2
 case done =>
  rintro D ys W hD hys ⟨⟨⟨⟨v, hv, hrow, -⟩, hv4⟩, ⟨hv0, hv1⟩, hv2⟩, hB⟩ hK
  have hc3 := hv.cell
  have hys' : ys.map Subtype.val = TP.flat t 0 := hys
  rw [hys'] at hrow
  obtain ⟨Av, cv_, rfl⟩ := own_slice hrow
  have HYS := Aside0.mk hys'
  clear hys hys'
  gi_wp2
  refine ⟨by simp, .inl ⟨_, _, rfl, run_takeDeferred hK, ?_⟩⟩
  refine ⟨.slice Av (pk T lo hi (TP.flat t 0)).length cv_, results_single rfl (.tmp .nil), _, rfl, ownsRow_putObj hrow _ hK rfl, ?_⟩
  exact hB.trans (belowK_b (w := w) (Nat.le_refl _) _ D _ _ (by omega) hK rfl rfl)
 case stop =>
  rintro D cc pre W hD hpre ⟨rfl, hge, ⟨v, hv, hrow, -⟩, hB⟩ hK
  have hc3 := hv.cell
  have hp : pre.map Subtype.val <+: TP.flat t 0 := hpre
  obtain ⟨rest, hrest⟩ := hp
  have hpk : pk T lo hi (TP.flat t 0) = pk T lo hi (pre.map Subtype.val) := (congrArg (pk T lo hi) hrest.symm).trans (pk_done T lo hi _ rest hge)
  rw [← hpk] at hrow
  obtain ⟨Av, cv_, rfl⟩ := own_slice hrow
  have HPK := Aside0.mk hpk
  clear hpk hrest hpre hge
  gi_wp2
  refine ⟨by simp, .inl ⟨_, _, rfl, run_takeDeferred hK, ?_⟩⟩
  refine ⟨.slice Av (pk T lo hi (TP.flat t 0)).length cv_, results_single rfl (.tmp .nil), _, rfl, ownsRow_putObj hrow _ hK rfl, ?_⟩
  exact hB.trans (belowK_b (w := w) (Nat.le_refl _) _ D _ _ (by omega) hK rfl rfl)
theorem peek_any (w : World) (b : Nat) (T : List Int) (t : Tree) (S : List Nat) (lo hi : Int) (h : PB w b T t S) (ok : TxtOk T t) (h0 : 0 ≤ lo) (h1 : lo ≤ hi) (h2 : hi ≤ 10000) :
  Calls Tryd.prog 89 #[.pointer (some ⟨b, 0, none⟩), .int .i64 lo, .int .i64 hi] w fun e W' => ∃ v, e = .returned v ∧ Kd.R (Kd.int .i32) 21 W' w.heap.size (fun _ => True) v (((txtOf T (TP.toL t)).take hi.toNat).drop lo.toNat) ∧ Below w.heap.size w W' := by
 refine (callsIn_wide (n := 3)).1 ?_
 refine (peek_in Fence.wide rfl 3 (Nat.le_refl _) w b T t S lo hi h ok h0 h1 h2).mono ?_
 rintro e W' ⟨v, rfl, ho, hb⟩
 have e : pk T lo hi (TP.flat t 0) = ((txtOf T (TP.toL t)).take hi.toNat).drop lo.toNat := by unfold pk; rw [TP.flat_toL]
 rw [e] at ho
 exact ⟨v, rfl, Kd.R_of_own (enc := Value.int .i32) (h1 := fun _ => rfl) ho (fun _ _ => trivial), hb⟩
end Go.Proofs.YtciabhncmdpeeaaDoor
