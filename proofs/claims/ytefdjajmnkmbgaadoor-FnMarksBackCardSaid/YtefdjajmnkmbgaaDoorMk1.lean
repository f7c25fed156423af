/- Marks: a table sorted (slices.SortFunc over before), walked. No condition but the bounds. -/
import Derived.Shelf.SlSortCmp.NoneTotal
import Derived.Test.YtefdjajmnkmbgaaDoorMk0
namespace Go.Proofs.YtefdjajmnkmbgaaDoor
open Go.RowKit Go.Sort Go.Shelf Go.Proofs.YtefdjajmnkmbgaaDoorW.PrintWords Go.Proofs.YtefdjajmnkmbgaaDoorW.PrintLast Go.Proofs.YtefdjajmnkmbgaaDoorW.PrintMore Er
def sortMk_ren : Go.Shelf.Ren := ⟨fun | 6 => 86 | 15 => 96 | 14 => 95 | 28 => 110 | 29 => 98 | 20 => 102 | 21 => 103 | 22 => 104 | 23 => 105 | 24 => 106 | 25 => 107 | 26 => 108 | 27 => 109 | 46 => 113 | 47 => 114 | 48 => 115 | 49 => 116 | 50 => 117 | 57 => 118 | n => n, fun | 22 => 26 | 24 => 53 | 25 => 88 | 3 => 3 | 39 => 93 | 0 => 0 | 53 => 146 | 55 => 85 | 4 => 4 | 46 => 150 | 45 => 149 | 50 => 99 | 5 => 5 | 9 => 9 | 66 => 156 | 70 => 160 | 76 => 164 | 77 => 165 | n => n, fun | n => n⟩
theorem sortMk : Go.Proofs.SlLaysF0.n6 Tryd.prog sortMk_ren := {
  mixed := by kernel_rfl
  f6 := ⟨Tryd.f86.name, by decide, Tryd.func86.trans (congrArg some (by kernel_rfl))⟩
  f14 := ⟨Tryd.f95.name, by decide, Tryd.func95.trans (congrArg some (by kernel_rfl))⟩
  f15 := Tryd.func96.trans (congrArg some (by kernel_rfl))
  f20 := ⟨Tryd.f102.name, by decide, Tryd.func102.trans (congrArg some (by kernel_rfl))⟩
  f21 := ⟨Tryd.f103.name, by decide, Tryd.func103.trans (congrArg some (by kernel_rfl))⟩
  f22 := ⟨Tryd.f104.name, by decide, Tryd.func104.trans (congrArg some (by kernel_rfl))⟩
  f23 := ⟨Tryd.f105.name, by decide, Tryd.func105.trans (congrArg some (by kernel_rfl))⟩
  f24 := ⟨Tryd.f106.name, by decide, Tryd.func106.trans (congrArg some (by kernel_rfl))⟩
  f25 := ⟨Tryd.f107.name, by decide, Tryd.func107.trans (congrArg some (by kernel_rfl))⟩
  f26 := ⟨Tryd.f108.name, by decide, Tryd.func108.trans (congrArg some (by kernel_rfl))⟩
  f27 := ⟨Tryd.f109.name, by decide, Tryd.func109.trans (congrArg some (by kernel_rfl))⟩
  f28 := Tryd.func110.trans (congrArg some (by kernel_rfl))
  f29 := Tryd.func98.trans (congrArg some (by kernel_rfl))
  f46 := ⟨Tryd.f113.name, by decide, Tryd.func113.trans (congrArg some (by kernel_rfl))⟩
  f47 := Tryd.func114.trans (congrArg some (by kernel_rfl))
  f48 := Tryd.func115.trans (congrArg some (by kernel_rfl))
  f49 := ⟨Tryd.f116.name, by decide, Tryd.func116.trans (congrArg some (by kernel_rfl))⟩
  f50 := ⟨Tryd.f117.name, by decide, Tryd.func117.trans (congrArg some (by kernel_rfl))⟩
  f57 := ⟨Tryd.f118.name, by decide, Tryd.func118.trans (congrArg some (by kernel_rfl))⟩
  t0 := Tryd.underlying0
  a0 := Tryd.isAgg0
  z0 := Tryd.sizeOf0
  v0 := Tryd.zeroValue0
  t3 := Tryd.underlying3
  a3 := Tryd.isAgg3
  z3 := Tryd.sizeOf3
  v3 := Tryd.zeroValue3
  t4 := Tryd.underlying4
  a4 := Tryd.isAgg4
  z4 := Tryd.sizeOf4
  v4 := Tryd.zeroValue4
  t5 := Tryd.underlying5
  a5 := Tryd.isAgg5
  z5 := Tryd.sizeOf5
  v5 := Tryd.zeroValue5
  t9 := Tryd.underlying9
  a9 := Tryd.isAgg9
  z9 := Tryd.sizeOf9
  v9 := Tryd.zeroValue9
  t22 := Tryd.underlying26
  a22 := Tryd.isAgg26
  z22 := Tryd.sizeOf26
  v22 := Tryd.zeroValue26
  t25 := Tryd.underlying88
  a25 := Tryd.isAgg88
  z25 := Tryd.sizeOf88
  v25 := Tryd.zeroValue88
  t39 := Tryd.underlying93
  a39 := Tryd.isAgg93
  z39 := Tryd.sizeOf93
  v39 := Tryd.zeroValue93
  t45 := Tryd.underlying149
  a45 := Tryd.isAgg149
  z45 := Tryd.sizeOf149
  v45 := Tryd.zeroValue149
  t46 := Tryd.underlying150
  a46 := Tryd.isAgg150
  z46 := Tryd.sizeOf150
  v46 := Tryd.zeroValue150
  t50 := Tryd.underlying99
  a50 := Tryd.isAgg99
  z50 := Tryd.sizeOf99
  v50 := Tryd.zeroValue99
  t53 := Tryd.underlying146
  a53 := Tryd.isAgg146
  z53 := Tryd.sizeOf146
  v53 := Tryd.zeroValue146
  t55 := Tryd.underlying85
  a55 := Tryd.isAgg85
  z55 := Tryd.sizeOf85
  v55 := Tryd.zeroValue85
  t66 := Tryd.underlying156
  a66 := Tryd.isAgg156
  z66 := Tryd.sizeOf156
  v66 := Tryd.zeroValue156
  t70 := Tryd.underlying160
  a70 := Tryd.isAgg160
  z70 := Tryd.sizeOf160
  v70 := Tryd.zeroValue160
  t76 := Tryd.underlying164
  a76 := Tryd.isAgg164
  z76 := Tryd.sizeOf164
  v76 := Tryd.zeroValue164
  t77 := Tryd.underlying165
  a77 := Tryd.isAgg165
  z77 := Tryd.sizeOf165
  v77 := Tryd.zeroValue165 }
abbrev kM : Kd Mk := QBase.k53
theorem ltM (x y : Mk) : ltOf cfM x y = decide (x.f1 < y.f1 ∨ x.f1 = y.f1 ∧ x.f0 < y.f0) := by
  unfold ltOf cfM cmpI
  by_cases h1 : x.f1 < y.f1
  · simp [h1]
  · by_cases h2 : y.f1 < x.f1
    · have : ¬ x.f1 = y.f1 := by omega
      simp [h1, h2, this]
    · have : x.f1 = y.f1 := by omega
      by_cases h3 : x.f0 < y.f0
      · simp [this, h3]
      · by_cases h4 : y.f0 < x.f0 <;> simp [this, h3, h4]
theorem swoM : SWO (ltOf cfM) where
  irrefl x := by rw [ltM]; simp
  trans x y z h1 h2 := by rw [ltM] at *; simp at *; omega
  ntrans x y z h1 h2 := by rw [ltM] at *; simp at *; omega
theorem mkL_len (x : Mk) : (mkL x).length = 3 := rfl
theorem mkL_one (x : Mk) : ∀ v ∈ mkL x, v.oneCell' = true := fun v hv => by simp [mkL] at hv; rcases hv with rfl | rfl | rfl <;> rfl
theorem flat_at {xs : List Mk} {L : List Value} (h : Reps (fun x cs => cs = mkL x) 3 xs L) (t : Nat) (ht : t < xs.length * 3) : L[t]? = some ((flatK mkL 3 xs.toArray)[t]!) := by
  have hj : t / 3 < xs.length := by omega
  have h1 := h.2 (t / 3) xs[t / 3] (List.getElem?_eq_getElem hj)
  have h2 : ((L.drop (t / 3 * 3)).take 3)[t % 3]? = L[t]? := by
    rw [List.getElem?_take, if_pos (by omega), List.getElem?_drop]
    congr 1; omega
  rw [← h2, h1, get_flatK _ _ _ _ (by simpa using ht)]
  have e : xs.toArray[t / 3]! = xs[t / 3] := by rw [getElem!_pos _ _ (by simpa using hj)]; simp
  rw [e]
  have hm : t % 3 < (mkL xs[t / 3]).length := by rw [mkL_len]; omega
  rw [List.getElem?_eq_getElem hm, getElem!_pos (mkL xs[t / 3]) (t % 3) hm]
theorem reps_flat {xs : List Mk} {L : List Value} (hl : L.length = xs.length * 3) (h : ∀ t, t < xs.length * 3 → L[t]? = some ((flatK mkL 3 xs.toArray)[t]!)) : Reps (fun x cs => cs = mkL x) 3 xs L := by
  refine ⟨hl, fun j p hj => ?_⟩
  have hjl : j < xs.length := (List.getElem?_eq_some_iff.1 hj).1
  have hp : xs[j] = p := (List.getElem?_eq_some_iff.1 hj).2
  refine List.ext_getElem? fun i => ?_
  by_cases hi : i < 3
  · rw [List.getElem?_take, if_pos hi, List.getElem?_drop, h _ (by omega), get_flatK _ _ _ _ (by simp; omega)]
    have e1 : (j * 3 + i) / 3 = j := by omega
    have e2 : (j * 3 + i) % 3 = i := by omega
    rw [e1, e2]
    have e : xs.toArray[j]! = p := by rw [getElem!_pos _ _ (by simpa using hjl)]; simpa using hp
    rw [e]
    have hm : i < (mkL p).length := by rw [mkL_len]; omega
    rw [List.getElem?_eq_getElem hm, getElem!_pos (mkL p) i hm]
  · rw [List.getElem?_eq_none (by rw [List.length_take]; omega), List.getElem?_eq_none (by rw [mkL_len]; omega)]
theorem R_parts {w : World} {base g cap : Nat} {ok : Nat → Prop} {xs : List Mk} (h : Kd.R kM 53 w base ok (.slice (some ⟨g, 0, none⟩) xs.length cap) xs) :
    ok g ∧ base ≤ g ∧ xs.length ≤ cap ∧ cap ≤ maxLen ∧ ∃ cur, w.heap[g]? = some (.cells cur 53 (0, 0)) ∧ cur.size = cap * 3 ∧ Reps (fun x cs => cs = mkL x) 3 xs (cur.toList.take (xs.length * 3)) := by
  obtain ⟨h0, inner, ⟨hlen, hown⟩, hreps⟩ := h
  rcases hown with ⟨e, _⟩ | ⟨g', cap', cur, e1, hb, hg, hnc, hcm, hcs, htk⟩
  · cases e
  · cases e1
    refine ⟨h0 g rfl, hb, hnc, hcm, cur, hg, hcs, ?_⟩
    have htk' : cur.toList.take (xs.length * 3) = inner := htk
    rw [htk']
    exact ⟨hreps.1, fun j p hj => QBase.k53_openM (hreps.2 j p hj)⟩
theorem R_make {w : World} {base g cap : Nat} {ok : Nat → Prop} {xs : List Mk} {cur : Array Value} (h0 : ok g) (hb : base ≤ g) (hc : xs.length ≤ cap) (hm : cap ≤ maxLen) (hg : w.heap[g]? = some (.cells cur 53 (0, 0))) (hs : cur.size = cap * 3)
    (hr : Reps (fun x cs => cs = mkL x) 3 xs (cur.toList.take (xs.length * 3))) : Kd.R kM 53 w base ok (.slice (some ⟨g, 0, none⟩) xs.length cap) xs :=
  ⟨fun k hk => by simp [Value.ownBlock] at hk; subst hk; exact h0, _, ⟨hr.1, .inr ⟨g, cap, cur, rfl, hb, hg, hc, hm, hs, rfl⟩⟩, ⟨hr.1, fun j p hj => by
    have e : List.take kM.sz (List.drop (j * kM.sz) (List.take (xs.length * 3) cur.toList)) = mkL p := hr.2 j p hj
    rw [e]; exact QBase.k53_mkM w base _ p⟩⟩
theorem holds_of_R {w : World} {base g cap : Nat} {ok : Nat → Prop} {xs : List Mk} (h : Kd.R kM 53 w base ok (.slice (some ⟨g, 0, none⟩) xs.length cap) xs) : HoldsK mkL 3 w g 0 xs.toArray ∧ g < w.heap.size := by
  obtain ⟨-, -, hc, -, cur, hg, hs, hr⟩ := R_parts h
  refine ⟨fun t ht => ?_, blk_lt hg⟩
  have ht' : t < xs.length * 3 := by simpa using ht
  have hk := flat_at hr t ht'
  rw [List.getElem?_take, if_pos ht'] at hk
  rw [Nat.zero_add]
  refine ⟨(blk_cell hg t).trans ?_, blk_frozen hg t⟩
  rw [← Array.getElem?_toList]; exact hk
theorem sw_heap (w : World) (blk n : Nat) (d : Array Mk) (os : Array Obj) (k : Nat) (hk : k < w.heap.size) :
    (sortWorldK mkL 3 w blk 0 n d os).heap[k]? = if blk = k then (w.heap[k]?).map (onCells (putCells id 0 (flatK mkL 3 d))) else w.heap[k]? := by
  unfold sortWorldK grow putRowK putRow mapBlock
  show (((Go.Sort.ahead w n).heap.modify blk _) ++ os)[k]? = _
  rw [Array.getElem?_append_left (by simpa [Go.Sort.ahead] using hk), Array.getElem?_modify]
  rfl
theorem R_sorted {w : World} {base g cap n : Nat} {ok : Nat → Prop} {xs ys : List Mk} {os : Array Obj} (h : Kd.R kM 53 w base ok (.slice (some ⟨g, 0, none⟩) xs.length cap) xs) (hl : ys.length = xs.length) :
    Kd.R kM 53 (sortWorldK mkL 3 w g 0 n ys.toArray os) base ok (.slice (some ⟨g, 0, none⟩) ys.length cap) ys := by
  obtain ⟨h0, hb, hc, hm, cur, hg, hs, hr⟩ := R_parts h
  refine R_make (cur := putCells id 0 (flatK mkL 3 ys.toArray) cur) h0 hb (by omega) hm ?_ ?_ ?_
  · rw [sw_heap _ _ _ _ _ _ (blk_lt hg), if_pos rfl, hg]; rfl
  · simp [putCells, hs]
  · have hsz : ys.length * 3 ≤ cap * 3 := by omega
    refine reps_flat (by simp [putCells, hs]; omega) fun t ht => ?_
    rw [List.getElem?_take, if_pos ht, Array.getElem?_toList]
    unfold putCells
    rw [Array.getElem?_mapIdx, Array.getElem?_eq_getElem (by omega), Option.map_some, if_pos ⟨Nat.zero_le _, by simpa using ht⟩]
    rfl
theorem sw_below (w : World) (blk n : Nat) (d : Array Mk) (os : Array Obj) (base : Nat) (hb : base ≤ blk) (hs : base ≤ w.heap.size) : Below base w (sortWorldK mkL 3 w blk 0 n d os) :=
  ⟨rfl, rfl, rfl, by show w.heap.size ≤ (((Go.Sort.ahead w n).heap.modify blk _) ++ os).size; simp [Go.Sort.ahead], fun k hk => by rw [sw_heap _ _ _ _ _ _ (by omega), if_neg (by omega)]⟩
/-- block tb is a table of these marks, in a row of its own -/
structure TB (w : World) (base tb : Nat) (v : Value) (xs : List Mk) : Prop where
  lo : base ≤ tb
  blk : w.heap[tb]? = some (.cells #[v] 68 (0, 0))
  row : Kd.R kM 53 w base (fun k => k ≠ tb) v xs
theorem TB.below {w w' : World} {base tb : Nat} {v : Value} {xs : List Mk} (h : TB w base tb v xs) (hb : Below w.heap.size w w') : TB w' base tb v xs := ⟨h.lo, blk_below h.blk hb, Kd.R_below h.row hb⟩
/-- sorted: what comes later is not before -/
def SortedM (ys : List Mk) : Prop := ∀ i j, i < j → j < ys.length → ltOf cfM (ys.getD j default) (ys.getD i default) = false
/-- a table whose marks stand anew -/
def TPost (w : World) (base tb : Nat) (v : Value) (xs : List Mk) (w' : World) : Prop := ∃ ys : List Mk, TB w' base tb v ys ∧ ys.Perm xs ∧ SortedM ys ∧ Below base w w'
theorem extract_all (d : Array Mk) : (d.extract 0 d.size).toList = d.toList := by simp
set_option maxHeartbeats 1000000 in
theorem tsort_any (w : World) (base tb : Nat) (v : Value) (xs : List Mk) (h : TB w base tb v xs) (hn : xs.length ≤ 1048576) :
    Calls Tryd.prog 75 #[.pointer (some ⟨tb, 0, none⟩)] w fun e w' => e = .returned (.tuple #[]) ∧ TPost w base tb v xs w' := by
  have q0 : w.cell? ⟨tb, 0, none⟩ = some v := (blk_cell h.blk 0).trans rfl
  obtain ⟨A, c, rfl⟩ := Kd.R_slice h.row
  have key : Calls Tryd.prog 86 #[.slice A xs.length c, .func (.func 65) #[] #[]] w fun e w' => e = .returned (.tuple #[]) ∧ TPost w base tb (.slice A xs.length c) xs w' := by
    by_cases h0 : xs.length = 0
    · have hcon := AnyF.slices_SortFunc_none sortMk A c (.func (.func 65) #[] #[]) w
      rw [h0]
      refine Calls.mono hcon ?_
      rintro e w' ⟨rfl, rfl⟩
      have hx : xs = [] := List.eq_nil_of_length_eq_zero h0
      subst hx
      exact ⟨rfl, [], h, List.Perm.refl _, fun i j _ hj => by simp at hj, Below.refl _ _⟩
    · obtain ⟨g, cap, e, hbg, -⟩ := Kd.R_form h.row (by omega)
      cases e
      obtain ⟨hH, hlt⟩ := holds_of_R h.row
      have eg : ∀ args w, (callFunc 65 args).run Tryd.prog w = .ok (.enter 65 args) w := enters_of Tryd.func65 (by kernel_rfl) rfl
      have hcon := AnyQ.slices_SortFunc sortMk 3 Tryd.isAgg53 Tryd.sizeOf53 mkL mkL_len mkL_one cfM swoM 65 #[] g 0 c xs.toArray w eg (fun m os dk hs x y => (before_any x y _).mono fun e w' ⟨h1, h2⟩ => ⟨h1, h2.ex⟩) hH hlt (by simp; omega)
      refine Calls.mono hcon ?_
      rintro e w' ⟨rfl, d', n, os, hp, hs, rfl⟩
      obtain ⟨hp1, -, hp3⟩ := hp
      have hp1' : d'.size = xs.length := by simpa using hp1
      have hl : d'.toList.length = xs.length := by simpa using hp1'
      refine ⟨rfl, d'.toList, ⟨h.lo, ?_, ?_⟩, ?_, ?_, ?_⟩
      · rw [sw_heap _ _ _ _ _ _ (blk_lt h.blk), if_neg (h.row.1 g rfl)]; exact h.blk
      · have := R_sorted (n := n) (os := os) h.row hl
        rw [hl] at this
        simpa using this
      · have e1 : (d'.extract 0 xs.toArray.size).toList = d'.toList := by rw [show xs.toArray.size = d'.size by simp [hp1']]; exact extract_all d'
        have e2 : (xs.toArray.extract 0 xs.toArray.size).toList = xs := by rw [extract_all]
        rw [e1, e2] at hp3
        exact hp3
      · intro i j hij hj
        have := hs i j (Nat.zero_le _) hij (by simpa [hl] using hj)
        rw [← this]
        have hd : ∀ k, k < d'.size → d'.toList.getD k default = d'[k]! := fun k hk => by
          rw [List.getD_eq_getElem?_getD, Array.getElem?_toList, Array.getElem?_eq_getElem hk, getElem!_pos d' k hk]; rfl
        rw [hd j (by rw [hp1']; omega), hd i (by rw [hp1']; omega)]
      · exact sw_below _ _ _ _ _ _ hbg (by omega)
  have KEY := Aside0.mk key
  clear key h
  go_enter Tryd.func75, Tryd.ntmps75
  go_wp2_with (go_at_call 86; refine KEY.out.mono ?_; rintro e w' ⟨rfl, hP⟩)
  go_end0
  exact ⟨rfl, hP⟩
end Go.Proofs.YtefdjajmnkmbgaaDoor
