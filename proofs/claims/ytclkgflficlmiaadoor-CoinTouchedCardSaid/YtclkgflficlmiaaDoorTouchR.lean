/- Rows of digests that are written in place: slices.Compare, coin.Diff.Touched's closure, slices.Compact; what the library's sort leaves. -/
import Derived.Test.YtclkgflficlmiaaDoorTouchQ
import Derived.Deep.MidRow
set_option maxRecDepth 100000
set_option linter.unusedVariables false
namespace Go.Proofs.YtclkgflficlmiaaDoor
open Go Go.RowKit Go.Sort
/-! ### comparing -/
set_option maxHeartbeats 4000000 in
theorem cmpbyte_calls (w : World) (a b : Int) : Calls Tryd.prog 83 #[.int .u8 a, .int .u8 b] w fun e w' => e = .returned (.int .i64 (if a < b then -1 else if b < a then 1 else 0)) ∧ w' = w := by
  have h0 : (a != a) = false := by simp
  have h9 : (b != b) = false := by simp
  by_cases h1 : a < b
  · have h1' : decide (a < b) = true := decide_eq_true h1
    go_enter Tryd.func83, Tryd.ntmps83
    go_wp2
    go_ret
    exact ⟨rfl, rfl⟩
  · have h1' : decide (a < b) = false := decide_eq_false h1
    by_cases h2 : b < a
    · have h2' : decide (b < a) = true := decide_eq_true h2
      go_enter Tryd.func83, Tryd.ntmps83
      go_wp2
      go_ret
      exact ⟨rfl, rfl⟩
    · have h2' : decide (b < a) = false := decide_eq_false h2
      go_enter Tryd.func83, Tryd.ntmps83
      go_wp2
      go_ret
      exact ⟨rfl, rfl⟩
set_option maxHeartbeats 4000000 in
theorem cmpbytes_calls (w : World) (b o b' o' n c d : Nat) (xs ys : List Int) (hl : xs.length = n) (hk : ys.length = n) (hn : n ≤ 1000) (hx : w.rangeAt b o (nums .u8 xs)) (hy : w.rangeAt b' o' (nums .u8 ys)) :
    Calls Tryd.prog 71 #[.slice (some ⟨b, o, none⟩) n c, .slice (some ⟨b', o', none⟩) n d] w fun e w' => e = .returned (.int .i64 (cmpL xs ys)) ∧ w' = w := by
  have HX := Lib.hid hx
  have HY := Lib.hid hy
  have HL := Lib.hid hl
  have HK := Lib.hid hk
  have hnI : (n : Int) ≤ 1000 := by omega
  have H0 : Hid (cmpL xs ys = cmpL (xs.drop 0) (ys.drop 0)) := Lib.hid rfl
  clear hx hy hl hk
  go_enter Tryd.func71, Tryd.ntmps71
  go_wp2
  go_loopw [11] (fun v11 wr => ∃ i : Nat, i ≤ n ∧ v11 = .int .i64 i ∧ wr = w ∧ Hid (cmpL xs ys = cmpL (xs.drop i) (ys.drop i))) (fun v _ => n - (intOf v).toNat)
  case atStart => exact ⟨0, by omega, rfl, rfl, H0⟩
  case round =>
    clear H0
    obtain ⟨i, hi, rfl, rfl, HR⟩ := hrel
    by_cases hil : i < n
    · have hil' : (i : Int) < (n : Int) := by omega
      have hii : (0 : Int) ≤ (i : Int) := by omega
      have hge : decide ((n : Int) ≤ (i : Int)) = false := decide_eq_false (by omega)
      obtain ⟨x, hx⟩ : ∃ x, xs[i]? = some x := ⟨_, List.getElem?_eq_getElem (by rw [HL.out]; exact hil)⟩
      obtain ⟨y, hy⟩ : ∃ y, ys[i]? = some y := ⟨_, List.getElem?_eq_getElem (by rw [HK.out]; exact hil)⟩
      have t1 : wr.cell? ⟨b, o + i, none⟩ = some (.int .u8 x) := HX.out i _ (by rw [nums, List.getElem?_map, hx]; rfl)
      have t2 : wr.cell? ⟨b', o' + i, none⟩ = some (.int .u8 y) := HY.out i _ (by rw [nums, List.getElem?_map, hy]; rfl)
      have HS : Hid (cmpL xs ys = if x < y then -1 else if y < x then 1 else cmpL (xs.drop (i + 1)) (ys.drop (i + 1))) := Lib.hid (by rw [HR.out, cmpL_step hx hy])
      have hC := cmpbyte_calls wr x y
      obtain ⟨z, hz⟩ : ∃ z, (if x < y then (-1 : Int) else if y < x then 1 else 0) = z := ⟨_, rfl⟩
      rw [hz] at hC
      by_cases hz0 : z = 0
      · subst hz0
        have HE : Hid (cmpL xs ys = cmpL (xs.drop (i + 1)) (ys.drop (i + 1))) := Lib.hid (by
          rw [HS.out]
          by_cases h1 : x < y
          · rw [if_pos h1] at hz; cases hz
          · by_cases h2 : y < x
            · rw [if_neg h1, if_pos h2] at hz; cases hz
            · rw [if_neg h1, if_neg h2])
        clear hx hy hz HS HR
        go_wp2_with fail
        refine hC.mono ?_
        rintro e w' ⟨rfl, rfl⟩
        go_wp2
        go_roundw
        case rel => exact ⟨i + 1, by omega, by go_num, by trivial, HE⟩
        case measure => simp [intOf]; omega
      · have HE : Hid (cmpL xs ys = z) := Lib.hid (by
          rw [HS.out, ← hz]
          by_cases h1 : x < y
          · rw [if_pos h1, if_pos h1]
          · by_cases h2 : y < x
            · rw [if_neg h1, if_pos h2, if_neg h1, if_pos h2]
            · rw [if_neg h1, if_neg h2] at hz; exact absurd hz.symm hz0)
        have hzb : (z != 0) = true := by rw [bne_iff_ne]; exact hz0
        clear hx hy hz HS HR hz0
        go_wp2_with fail
        refine hC.mono ?_
        rintro e w' ⟨rfl, rfl⟩
        go_wp2
        go_ret
        exact ⟨by rw [HE.out]; rfl, rfl⟩
    · have hil' : ¬ (i : Int) < (n : Int) := by omega
      have HE : Hid (cmpL xs ys = 0) := Lib.hid (by rw [HR.out, List.drop_eq_nil_of_le (by rw [HL.out]; omega), List.drop_eq_nil_of_le (by rw [HK.out]; omega)]; rfl)
      go_wp2
      go_ret
      exact ⟨by rw [HE.out]; rfl, rfl⟩
set_option maxHeartbeats 4000000 in
theorem tclos_calls (w : World) (x y : List Int) (hx : Dig x) (hy : Dig y) :
    Calls Tryd.prog 70 #[.agg (nums .u8 x).toArray, .agg (nums .u8 y).toArray] w fun e w' => e = .returned (.int .i64 (cmpL x y)) ∧ ∃ q os', w' = grow (w.drewN q) os' := by
  have h0 := heap_alloc_new w (.cells (nums .u8 x).toArray 24)
  have h1 := blk_alloc h0 (.cells (nums .u8 y).toArray 24)
  have h2 := heap_alloc_new (w.alloc (.cells (nums .u8 x).toArray 24)) (.cells (nums .u8 y).toArray 24)
  have e1 : (w.alloc (.cells (nums .u8 x).toArray 24)).heap.size = w.heap.size + 1 := by simp
  rw [e1] at h2
  have hw : (((w.alloc (.cells (nums .u8 x).toArray 24)).alloc (.cells (nums .u8 y).toArray 24)).drew) = grow (w.drewN 1) (#[.cells (nums .u8 x).toArray 24] ++ #[.cells (nums .u8 y).toArray 24]) := by rw [alloc_eq_grow, alloc_eq_grow, grow_grow]; rfl
  go_enter Tryd.func70, Tryd.ntmps70
  go_upto_region 1 with fail
  obtain ⟨W, hW⟩ : ∃ W, ((w.alloc (.cells (nums .u8 x).toArray 24)).alloc (.cells (nums .u8 y).toArray 24)) = W := ⟨_, rfl⟩
  rw [hW] at h1 h2 hw ⊢
  have r1 := range_block (xs := nums .u8 x) (show W.drew.heap[w.heap.size]? = _ from h1)
  have r2 := range_block (xs := nums .u8 y) (show W.drew.heap[w.heap.size + 1]? = _ from h2)
  have HW := Lib.hid hw
  clear h0 h1 h2 e1 hW hw
  refine wp_region_noPanic ?_
  refine wp_region_held_drew (S := fun w' => w' = W.drew) (by kernel_rfl) rfl (fun hHeld => ?_)
  refine wpAnyH_take (i := 0) (oi := ⟨some 5, _, _, _, _, _⟩) (v := .slice (some ⟨w.heap.size, 0, none⟩) 32 32) rfl (by kernel_rfl) (by kernel_rfl) (by kernel_rfl) (fun _ _ _ h => h) (Or.inl ⟨by rfl, by intro w hSw; (try dsimp only at hSw); go_simp⟩) (by assumption) ?_
  simp only [Act.put, List.setIfInBounds_toArray, List.set_cons_zero, List.set_cons_succ]
  refine wpAnyH_take (i := 1) (oi := ⟨some 6, _, _, _, _, _⟩) (v := .slice (some ⟨w.heap.size + 1, 0, none⟩) 32 32) rfl (by kernel_rfl) (by kernel_rfl) (by kernel_rfl) (fun _ _ _ h => h) (Or.inl ⟨by rfl, by intro w hSw; (try dsimp only at hSw); go_simp⟩) (by assumption) ?_
  simp only [Act.put, List.setIfInBounds_toArray, List.set_cons_zero, List.set_cons_succ]
  refine wpAnyH_ready (rs := [2]) (by kernel_rfl) (by simp) ?_
  refine AllReadyH.cons (o := ⟨some 7, _, _, _, _, _⟩) rfl (fun K hK => ?_) AllReadyH.nil
  go_simp
  refine (cmpbytes_calls W.drew w.heap.size 0 (w.heap.size + 1) 0 32 32 32 x y hx.1 hy.1 (by omega) r1 r2).mono ?_
  rintro e w5 ⟨rfl, rfl⟩
  refine hK.out _ _ rfl (fun hHeld' => ?_)
  clear hHeld
  clear hK K
  try (simp only [Act.put, List.setIfInBounds_toArray, List.set_cons_zero, List.set_cons_succ])
  refine wpAnyH_take (i := 3) (oi := ⟨some 4, _, _, _, _, _⟩) (v := ?_) rfl (by kernel_rfl) (by kernel_rfl) (by kernel_rfl) (fun _ _ _ h => h) (Or.inl ⟨by rfl, ?_⟩) (by assumption) ?_
  rotate_left 1
  · intro w hSw; (try dsimp only at hSw); go_simp; try with_reducible rfl
  simp only [Act.put, List.setIfInBounds_toArray, List.set_cons_zero, List.set_cons_succ]
  refine wpAnyH_done (by kernel_rfl) ?_ _
  refine NoPanic.normal ?_
  go_wp2
  go_ret
  exact ⟨rfl, 1, _, HW.out⟩
/-! ### a row of digests, written in place -/
theorem Turned.rfl_ (w : World) (g : Nat) : Turned w g w := ⟨rfl, rfl, rfl, rfl, fun _ _ => rfl⟩
theorem Turned.tr {w w1 w2 : World} {g : Nat} (h : Turned w g w1) (k : Turned w1 g w2) : Turned w g w2 := ⟨k.os.trans h.os, k.tape.trans h.tape, k.output.trans h.output, k.size.trans h.size, fun i hi => (k.block i hi).trans (h.block i hi)⟩
theorem Turned.drewN_ {w w1 : World} {g : Nat} (h : Turned w g w1) (n : Nat) : Turned w g (w1.drewN n) := ⟨h.os, h.tape, h.output, h.size, h.block⟩
theorem setCells_turned (b : Nat) : ∀ (vs : List Value) (o : Nat) (w : World), Turned w b (w.setCells b o vs)
  | [], o, w => Turned.rfl_ w b
  | v :: r, o, w => (turned_setCell w b o v).tr (setCells_turned b r (o + 1) _)
structure RowH (w : World) (g : Nat) (ids : List (List Int)) : Prop where
  lt : g < w.heap.size
  dig : Digs ids
  at_ : ∀ i x, ids[i]? = some x → w.rangeAt g (i * 32) (nums .u8 x)
  fz : ∀ j, j < ids.length * 32 → w.frozen? ⟨g, j, none⟩ = false
theorem RowH.drewN {w : World} {g : Nat} {ids : List (List Int)} (h : RowH w g ids) (n : Nat) : RowH (w.drewN n) g ids := ⟨h.lt, h.dig, h.at_, h.fz⟩
theorem RowH.there {w : World} {g k : Nat} {ids : List (List Int)} (h : RowH w g ids) {x : List Int} (hx : ids[k]? = some x) : w.there g (k * 32) 32 := by
  intro j hj
  have hxd := h.dig x (List.mem_of_getElem? hx)
  have hk := (List.getElem?_eq_some_iff.1 hx).1
  have hl : (nums .u8 x).length = 32 := by rw [nums_length]; exact hxd.1
  refine ⟨?_, h.fz _ (by have := Nat.mul_le_mul_right 32 (show k + 1 ≤ ids.length from hk); omega)⟩
  rw [h.at_ k x hx j _ (List.getElem?_eq_getElem (by rw [hl]; exact hj))]
  rfl
/-- One digest is laid anew. -/
theorem RowH.set {w : World} {g k : Nat} {ids : List (List Int)} (h : RowH w g ids) {x y : List Int} (hx : ids[k]? = some x) (hy : Dig y) : RowH (w.setCells g (k * 32) (nums .u8 y)) g (ids.set k y) := by
  have hl : (nums .u8 y).length = 32 := by rw [nums_length]; exact hy.1
  have ht := setCells_turned g (nums .u8 y) (k * 32) w
  refine ⟨by rw [ht.size]; exact h.lt, fun z hz => ?_, fun i z hz => ?_, fun j hj => ?_⟩
  · rcases List.mem_or_eq_of_mem_set hz with hz | hz
    · exact h.dig z hz
    · rw [hz]; exact hy
  · by_cases hik : i = k
    · subst hik
      have hi := (List.getElem?_eq_some_iff.1 hx).1
      rw [List.getElem?_set_self hi] at hz
      obtain rfl := Option.some.inj hz
      exact World.rangeAt_setCells_same w g (i * 32) _ (by rw [hl]; exact h.there hx)
    · rw [List.getElem?_set_ne (fun e => hik e.symm)] at hz
      have hzl : (nums .u8 z).length = 32 := by rw [nums_length]; exact (h.dig z (List.mem_of_getElem? hz)).1
      refine World.rangeAt_setCells_apart (h.at_ i z hz) g (k * 32) _ (Or.inr ?_)
      rw [hl, hzl]
      omega
  · rw [World.frozen?_setCells]
    rw [List.length_set] at hj
    exact h.fz j hj
/-- What lies ahead of a place stands where what lies behind it is written. -/
theorem RowH.front {w : World} {g k : Nat} {ids : List (List Int)} (h : RowH w g ids) (vs : List Value) (hk : k ≤ ids.length) : RowH (w.setCells g (k * 32) vs) g (ids.take k) := by
  have ht := setCells_turned g vs (k * 32) w
  refine ⟨by rw [ht.size]; exact h.lt, fun z hz => h.dig z (List.mem_of_mem_take hz), fun i z hz => ?_, fun j hj => ?_⟩
  · rw [List.getElem?_take] at hz
    split at hz
    · rename_i hik
      have hzl : (nums .u8 z).length = 32 := by rw [nums_length]; exact (h.dig z (List.mem_of_getElem? hz)).1
      exact World.rangeAt_setCells_apart (h.at_ i z hz) g (k * 32) _ (Or.inr (Or.inl (by rw [hzl]; omega)))
    · cases hz
  · rw [World.frozen?_setCells]
    rw [List.length_take] at hj
    exact h.fz j (by have : min k ids.length * 32 ≤ ids.length * 32 := Nat.mul_le_mul_right 32 (Nat.min_le_right _ _); omega)
theorem RowH.C {w : World} {g : Nat} {ids : List (List Int)} (h : RowH w g ids) : HC w (some ⟨g, 0, none⟩) ids.length ids := by
  refine ⟨rfl, fun _ => ⟨g, 0, rfl, trivial, h.lt, fun i x hx => ?_⟩⟩
  have hd := h.dig x (List.mem_of_getElem? hx)
  refine ⟨nums .u8 x, ⟨rfl, hd.1, hd.2⟩, fun j v hv => ?_⟩
  rw [show 0 + i * hashK.sz + j = i * 32 + j by rw [Nat.zero_add]; rfl]
  exact h.at_ i x hx j v hv
theorem RowH.below {w w' : World} {g : Nat} {ids : List (List Int)} (h : RowH w g ids) (hb : Below w.heap.size w w') : RowH w' g ids :=
  ⟨Nat.lt_of_lt_of_le h.lt hb.size, h.dig, fun i x hx => range_below hb (h.at_ i x hx), fun j hj => by
    have := h.fz j hj
    simp only [World.frozen?] at this ⊢
    rw [hb.block g h.lt]
    exact this⟩
theorem wpQuiet_at {P : Program} {ops : Array Oper} {S : World → Prop} {Q : Act → Prop} {rest : List Oper} {a : Act} (d : Nat) {op : Op} {ty : TypeId} {pos : String} {after : Array Edge} {g : Option (Nat × Bool)} (h : wpQuiet P ops S Q (⟨some d, op, ty, pos, after, g⟩ :: rest) a) : wpQuiet P ops S Q (⟨some d, op, ty, pos, after, g⟩ :: rest) a := h
theorem wpList_clear {P : Program} {ops : Array Oper} {rest : List Oper} {o : Oper} {a : Act} {w : World} {Q : Exit → Act → World → Prop} (hgd : o.guard = none) (x : Operand) (t : TypeId) (ho : o.op = .call { callee := .builtin .clear, args := #[x], argTypes := #[t] })
    (v : Value) (hx : a.eval x = v) (w' : World) (hrun : ∀ ty, (Builtin.clear_ #[t] ty #[v]).run P w = .ok (.tuple #[]) w') (h : wpList P ops Q rest (a.put o.dst (.tuple #[])) w') : wpList P ops Q (o :: rest) a w :=
  wpList_plain hgd fun _ hK => by
    unfold Oper.wp execOp
    simp only [ho, resolve, invoke, builtin, Sem.run_bind, Sem.run_pure, Result.andThen_ok, List.map_toArray, List.map_cons, List.map_nil, hx, hrun]
    exact hK _ _ h
/-- 'clear' of a row's end. -/
theorem run_clearH (w : World) {g k n c : Nat} {ids : List (List Int)} (h : RowH w g ids) (hn : ids.length = n) (hk : k < n) :
    ∃ vs, ∀ ty, (Builtin.clear_ #[58] ty #[.slice (some ⟨g, k * 32, none⟩) (n - k) c]).run Tryd.prog w = .ok (.tuple #[]) (w.setCells g (k * 32) vs) := by
  have hz : (zeroValue 24).run Tryd.prog w = .ok (.agg (nums .u8 zeros32).toArray) w := by kernel_rfl
  obtain ⟨m, hm⟩ : ∃ m, n - k = m + 1 := ⟨n - k - 1, by omega⟩
  have hzl : (Builtin.zeroCells (Value.agg (nums .u8 zeros32).toArray).cells (m + 1)).toList.length = (m + 1) * 32 := by
    simp [Builtin.zeroCells, Value.cells, nums, zeros32]
  have hone : ∀ v ∈ (Builtin.zeroCells (Value.agg (nums .u8 zeros32).toArray).cells (m + 1)).toList, v.oneCell' = true := by
    intro v hv
    simp only [Builtin.zeroCells, Value.cells] at hv
    have h1 : ∀ i : Nat, ((nums .u8 zeros32).toArray[i % 32]!).oneCell' = true := fun i => by
      have hlt : i % 32 < (nums .u8 zeros32).toArray.size := by
        have : (nums .u8 zeros32).toArray.size = 32 := rfl
        omega
      rw [getElem!_pos (nums .u8 zeros32).toArray (i % 32) hlt]
      exact nums_one .u8 zeros32 _ (by simp)
    rw [Array.mem_toList_iff] at hv
    obtain ⟨i, _, rfl⟩ := Array.mem_map.1 hv
    exact h1 i
  have hst := run_storeCells_cells (P := Tryd.prog) g (k * 32) (Builtin.zeroCells (Value.agg (nums .u8 zeros32).toArray).cells (m + 1)).toList 0 w
    (fun j hj => by
      rw [hzl] at hj
      obtain ⟨x, hx⟩ : ∃ x, ids[k + j / 32]? = some x := ⟨_, List.getElem?_eq_getElem (by omega)⟩
      have := (h.there hx (j % 32) (Nat.mod_lt _ (by omega))).1
      rwa [show (k + j / 32) * 32 + j % 32 = k * 32 + 0 + j by omega] at this)
    (fun j hj => by
      rw [hzl] at hj
      exact h.fz _ (by omega)) hone
  refine ⟨(Builtin.zeroCells (Value.agg (nums .u8 zeros32).toArray).cells (m + 1)).toList, fun ty => ?_⟩
  rw [hm]
  simp only [Nat.add_zero] at hst
  simp [Builtin.clear_, run_underlying Tryd.underlying58, hz, hst]
def CompPost (w : World) (g : Nat) (ids : List (List Int)) (e : Ending) (w' : World) : Prop := ∃ m c', e = .returned (.slice (some ⟨g, 0, none⟩) m c') ∧ (cmpR ids).length = m ∧ RowH w' g (cmpR ids) ∧ Turned w g w'
set_option maxHeartbeats 16000000 in
theorem compact_calls (w : World) (g n c : Nat) (ids : List (List Int)) (hl : ids.length = n) (hn : n ≤ 1000) (hnc : n ≤ c) (hcm : c ≤ maxLen) (hR : RowH w g ids) :
    Calls Tryd.prog 72 #[.slice (some ⟨g, 0, none⟩) n c] w (CompPost w g ids) := by
  have hUH := Tryd.underlying24
  have hnI : (n : Int) ≤ 1000 := by omega
  have HL := Lib.hid hl
  have hcm' := hcm
  unfold maxLen at hcm'
  have hcI : (n : Int) ≤ (c : Int) := by omega
  clear hl hcm
  by_cases h2 : n < 2
  · have h2' : decide ((n : Int) < 2) = true := decide_eq_true (by omega)
    have he : cmpR ids = ids := by
      have := cmpR_one ids
      rwa [List.take_of_length_le (by rw [HL.out]; omega)] at this
    have HE := Lib.hid he
    clear he
    go_enter Tryd.func72, Tryd.ntmps72
    go_wp2
    go_ret
    exact ⟨n, c, rfl, by rw [HE.out, HL.out], by rw [HE.out]; exact hR, Turned.rfl_ _ _⟩
  · have h2' : decide ((n : Int) < 2) = false := decide_eq_false (by omega)
    have HK0 : Hid (cmpR (ids.take 1) = ids.take 1) := Lib.hid (cmpR_one ids)
    go_enter Tryd.func72, Tryd.ntmps72
    go_wp2
    go_loopw [3] (fun v3 wr => ∃ k : Nat, 1 ≤ k ∧ k ≤ n ∧ v3 = .int .i64 k ∧ Hid (cmpR (ids.take k) = ids.take k) ∧ RowH wr g ids ∧ Turned w g wr) (fun v _ => n - (intOf v).toNat)
    case atStart => exact ⟨1, by omega, by omega, rfl, HK0, hR, Turned.rfl_ _ _⟩
    case round =>
      clear HK0 hR
      obtain ⟨k, hk1, hkn, rfl, HC, hR, hT⟩ := hrel
      by_cases hil : k < n
      · have hil' : (k : Int) < (n : Int) := by omega
        have hkk : (1 : Int) ≤ (k : Int) := by omega
        obtain ⟨j, rfl⟩ : ∃ j, k = j + 1 := ⟨k - 1, by omega⟩
        obtain ⟨x, hx⟩ : ∃ x, ids[j]? = some x := ⟨_, List.getElem?_eq_getElem (by rw [HL.out]; omega)⟩
        obtain ⟨y, hy⟩ : ∃ y, ids[j + 1]? = some y := ⟨_, List.getElem?_eq_getElem (by rw [HL.out]; omega)⟩
        have hxd := hR.dig x (List.mem_of_getElem? hx)
        have hyd := hR.dig y (List.mem_of_getElem? hy)
        have rx := hR.at_ j x hx
        have ry := hR.at_ (j + 1) y hy
        have ix := info_hh x hxd.1
        have iy := info_hh y hyd.1
        have HT := Lib.hid (cmpR_take hx hy)
        have hEQ : ∀ W, (Op.equalIn 10000 24 (.agg (nums .u8 y).toArray) (.agg (nums .u8 x).toArray)).run Tryd.prog W = .ok (y == x) W := fun W =>
          run_equalIn_nums (P := Tryd.prog) W 9998 24 5 32 .u8 .u8 Tryd.underlying24 Tryd.underlying5 info_u8 y x hyd.1 hxd.1
        have hjI : ((j + 1 : Nat) : Int) - 1 = (j : Int) := by omega
        have hwj : IntKind.i64.wrap (((j + 1 : Nat) : Int) - 1) = (j : Int) := by rw [IntWalk.i64_in _ (by omega)]; omega
        have hjn : (j : Int) < (n : Int) := by omega
        have hj0 : (0 : Int) ≤ (j : Int) := by omega
        obtain ⟨bq, hbq⟩ : ∃ bq, (y == x) = bq := ⟨_, rfl⟩
        rw [hbq] at hEQ
        have HBQ := Lib.hid hbq
        clear hbq
        go_upto_region 6 with fail
        cases bq with
        | false =>
          have HN : Hid (cmpR (ids.take (j + 1 + 1)) = ids.take (j + 1 + 1)) := Lib.hid (by
            have hne : ¬ x = y := fun e => by have := HBQ.out; rw [e] at this; simp at this
            rw [HT.out, if_neg hne, HC.out, List.take_add_one (i := j + 1), hy]
            rfl)
          clear hx hy
          refine wp_region_quiet_lit (by kernel_rfl) (by kernel_rfl) ?_
          repeat (first
            | ((with_reducible refine wpQuiet_at 19 ?_); refine wpQuiet_load_midG rfl 24 (.tmp 18) rfl g ((j + 1) * 32) rfl (nums .u8 y) _ ry hUH rfl iy ?_)
            | ((with_reducible refine wpQuiet_at 24 ?_); refine wpQuiet_load_midG rfl 24 (.tmp 23) rfl g (j * 32) rfl (nums .u8 x) _ rx hUH rfl ix ?_)
            | go_big_quiet_step (fail) | quiet_step (fail))
          refine wpQuiet_nil ?_
          rintro _ ⟨nq, rfl⟩
          have hR2 := hR.drewN nq
          have hT2 := hT.drewN_ nq
          clear hR hT hEQ rx ry hwj hjI
          go_wp2
          go_roundw
          case rel => exact ⟨j + 1 + 1, by omega, by omega, by go_num, HN, hR2, hT2⟩
          case measure => simp [intOf]; omega
        | true =>
          have hxy : x = y := by have := HBQ.out; exact (by simpa using this : y = x).symm
          have HC1 : Hid (ids.take (j + 1) = cmpR (ids.take (j + 1 + 1))) := Lib.hid (by rw [HT.out, if_pos hxy, HC.out])
          have hne : ¬ (c = j + 1) := by omega
          clear hx hy hxy
          refine wp_region_quiet_lit (by kernel_rfl) (by kernel_rfl) ?_
          repeat (first
            | ((with_reducible refine wpQuiet_at 19 ?_); refine wpQuiet_load_midG rfl 24 (.tmp 18) rfl g ((j + 1) * 32) rfl (nums .u8 y) _ ry hUH rfl iy ?_)
            | ((with_reducible refine wpQuiet_at 24 ?_); refine wpQuiet_load_midG rfl 24 (.tmp 23) rfl g (j * 32) rfl (nums .u8 x) _ rx hUH rfl ix ?_)
            | go_big_quiet_step (fail) | quiet_step (fail))
          refine wpQuiet_nil ?_
          rintro _ ⟨nq, rfl⟩
          have hR2 := hR.drewN nq
          have hT2 := hT.drewN_ nq
          clear hR hT hEQ rx ry hwj hjI ix iy hxd hyd
          go_wp2
          go_loopw [3, 5] (fun v3 v5 wr => ∃ (k2 kk : Nat) (ys : List (List Int)), 1 ≤ k2 ∧ j + 1 + k2 ≤ n ∧ v5 = .int .i64 k2 ∧ v3 = .int .i64 kk ∧ kk ≤ j + k2 ∧ Hid (ys.length = n) ∧ RowH wr g ys ∧ Hid (ys.take kk = cmpR (ids.take (j + 1 + k2))) ∧ Hid (ys.drop kk = ids.drop kk) ∧ Turned w g wr) (fun _ v _ => n - (intOf v).toNat)
          case atStart => exact ⟨1, j + 1, ids, by omega, by omega, rfl, by go_num, by omega, HL, hR2, HC1, Lib.hid rfl, hT2⟩
          case round =>
            clear HC1 hR2 hT2
            obtain ⟨k2, kk, ys, hk21, hk2n, rfl, rfl, hkk, HY, hR, HTK, HDR, hT⟩ := hrel
            by_cases hlt : k2 < n - (j + 1)
            · have hlt' : (k2 : Int) < ((n - (j + 1) : Nat) : Int) := by omega
              have hkk1 : (1 : Int) ≤ (k2 : Int) := by omega
              obtain ⟨e, rfl⟩ : ∃ e, k2 = e + 1 := ⟨k2 - 1, by omega⟩
              have hsame : ∀ i, kk ≤ i → ys[i]? = ids[i]? := fun i hi => by
                have := congrArg (fun l : List (List Int) => l[i - kk]?) HDR.out
                simp only [List.getElem?_drop] at this
                rwa [show kk + (i - kk) = i by omega] at this
              obtain ⟨x2, hx2⟩ : ∃ x, ys[j + 1 + e]? = some x := ⟨_, List.getElem?_eq_getElem (by rw [HY.out]; omega)⟩
              obtain ⟨y2, hy2⟩ : ∃ y, ys[j + 1 + (e + 1)]? = some y := ⟨_, List.getElem?_eq_getElem (by rw [HY.out]; omega)⟩
              have hx2d := hR.dig x2 (List.mem_of_getElem? hx2)
              have hy2d := hR.dig y2 (List.mem_of_getElem? hy2)
              have rx : wr.rangeAt g ((j + 1) * 32 + e * 32) (nums .u8 x2) := by have := hR.at_ _ _ hx2; rwa [Nat.add_mul (j + 1) e 32] at this
              have ry : wr.rangeAt g ((j + 1) * 32 + (e + 1) * 32) (nums .u8 y2) := by have := hR.at_ _ _ hy2; rwa [Nat.add_mul (j + 1) (e + 1) 32] at this
              have ix := info_hh x2 hx2d.1
              have iy := info_hh y2 hy2d.1
              have hix : ids[j + 1 + e]? = some x2 := by rw [← hsame _ (by omega)]; exact hx2
              have hiy : ids[j + 1 + e + 1]? = some y2 := by rw [← hsame _ (by omega)]; exact hy2
              have HT2 := Lib.hid (cmpR_take hix hiy)
              have hEQ : ∀ W, (Op.equalIn 10000 24 (.agg (nums .u8 y2).toArray) (.agg (nums .u8 x2).toArray)).run Tryd.prog W = .ok (y2 == x2) W := fun W =>
                run_equalIn_nums (P := Tryd.prog) W 9998 24 5 32 .u8 .u8 Tryd.underlying24 Tryd.underlying5 info_u8 y2 x2 hy2d.1 hx2d.1
              have hwe : IntKind.i64.wrap (((e + 1 : Nat) : Int) - 1) = (e : Int) := by rw [IntWalk.i64_in _ (by omega)]; omega
              have hee : ((e + 1 : Nat) : Int) - 1 = (e : Int) := by omega
              have he0 : (0 : Int) ≤ (e : Int) := by omega
              have hen : (e : Int) < ((n - (j + 1) : Nat) : Int) := by omega
              obtain ⟨bq, hbq⟩ : ∃ bq, (y2 == x2) = bq := ⟨_, rfl⟩
              rw [hbq] at hEQ
              have HBQ2 := Lib.hid hbq
              clear hbq hsame hix hiy hx2
              go_upto_region 11 with fail
              cases bq with
              | true =>
                have HTN : Hid (ys.take kk = cmpR (ids.take (j + 1 + (e + 1 + 1)))) := Lib.hid (by
                  have hxy : x2 = y2 := by have := HBQ2.out; exact (by simpa using this : y2 = x2).symm
                  rw [HTK.out, show j + 1 + (e + 1 + 1) = j + 1 + e + 2 by omega, HT2.out, if_pos hxy, show j + 1 + (e + 1) = j + 1 + e + 1 by omega])
                clear hy2
                refine wp_region_quiet_lit (by kernel_rfl) (by kernel_rfl) ?_
                repeat (first
                  | ((with_reducible refine wpQuiet_at 38 ?_); refine wpQuiet_load_midG rfl 24 (.tmp 37) rfl g ((j + 1) * 32 + (e + 1) * 32) rfl (nums .u8 y2) _ ry hUH rfl iy ?_)
                  | ((with_reducible refine wpQuiet_at 43 ?_); refine wpQuiet_load_midG rfl 24 (.tmp 42) rfl g ((j + 1) * 32 + e * 32) rfl (nums .u8 x2) _ rx hUH rfl ix ?_)
                  | go_big_quiet_step (fail) | quiet_step (fail))
                refine wpQuiet_nil ?_
                rintro _ ⟨nq, rfl⟩
                have hR2 := hR.drewN nq
                have hT2 := hT.drewN_ nq
                clear hR hT hEQ rx ry hwe hee
                go_wp2
                go_roundw
                case rel => exact ⟨e + 1 + 1, kk, ys, by omega, by omega, by go_num, rfl, by omega, HY, hR2, HTN, HDR, hT2⟩
                case measure => simp [intOf]; omega
              | false =>
                have hkn : kk < n := by omega
                obtain ⟨z, hz⟩ : ∃ z, ys[kk]? = some z := ⟨_, List.getElem?_eq_getElem (by rw [HY.out]; omega)⟩
                have HTN : Hid ((ys.set kk y2).take (kk + 1) = cmpR (ids.take (j + 1 + (e + 1 + 1)))) := Lib.hid (by
                  have hxy : ¬ x2 = y2 := fun h => by have := HBQ2.out; rw [h] at this; simp at this
                  rw [show j + 1 + (e + 1 + 1) = j + 1 + e + 2 by omega, HT2.out, if_neg hxy, show j + 1 + e + 1 = j + 1 + (e + 1) by omega, ← HTK.out, List.take_add_one, List.getElem?_set_self (by rw [HY.out]; omega), List.take_set_of_le (Nat.le_refl _)]
                  rfl)
                have HDN : Hid ((ys.set kk y2).drop (kk + 1) = ids.drop (kk + 1)) := Lib.hid (by
                  rw [List.drop_set_of_lt (by omega)]
                  have := congrArg (List.drop 1) HDR.out
                  rwa [List.drop_drop, List.drop_drop] at this)
                have HYN : Hid ((ys.set kk y2).length = n) := Lib.hid (by rw [List.length_set]; exact HY.out)
                have hkI : (kk : Int) < (n : Int) := by omega
                have hk0 : (0 : Int) ≤ (kk : Int) := by omega
                clear hy2
                refine wp_region_quiet_lit (by kernel_rfl) (by kernel_rfl) ?_
                repeat (first
                  | ((with_reducible refine wpQuiet_at 38 ?_); refine wpQuiet_load_midG rfl 24 (.tmp 37) rfl g ((j + 1) * 32 + (e + 1) * 32) rfl (nums .u8 y2) _ ry hUH rfl iy ?_)
                  | ((with_reducible refine wpQuiet_at 43 ?_); refine wpQuiet_load_midG rfl 24 (.tmp 42) rfl g ((j + 1) * 32 + e * 32) rfl (nums .u8 x2) _ rx hUH rfl ix ?_)
                  | go_big_quiet_step (fail) | quiet_step (fail))
                refine wpQuiet_nil ?_
                rintro _ ⟨nq, rfl⟩
                have hR2 := hR.drewN nq
                have hT2 := hT.drewN_ nq
                have ry2 : (wr.drewN nq).rangeAt g ((j + 1) * 32 + (e + 1) * 32) (nums .u8 y2) := ry
                have hthere := hR2.there hz
                have hsz : (nums .u8 y2).toArray.size = 32 := by rw [nums_size, hy2d.1]
                have iA := info_h y2 hy2d.1
                have hR3 := hR2.set hz hy2d
                have hT3 := hT2.tr (setCells_turned g (nums .u8 y2) (kk * 32) (wr.drewN nq))
                have hthere' : (wr.drewN nq).there g (kk * 32) (nums .u8 y2).toArray.size := by rw [hsz]; exact hthere
                clear hR hT hEQ rx ry hwe hee hR2 hT2 hthere
                go_upto_region 13 with (first
                  | ((with_reducible refine wpList_at 50 ?_); refine wpList_load_mid rfl 24 (.tmp 49) rfl g ((j + 1) * 32 + (e + 1) * 32) rfl (nums .u8 y2) _ ry2 hUH rfl iy ?_)
                  | ((with_reducible refine wpList_atS 51 ?_); refine wpList_store_mid rfl 24 (.tmp 51) (.tmp 50) rfl g (kk * 32) (nums .u8 y2).toArray rfl rfl hthere' iA (nums_all _ _) ?_))
                clear ry2 hthere' iA
                go_wp2
                go_roundw
                case rel => exact ⟨e + 1 + 1, kk + 1, ys.set kk y2, by omega, by omega, by go_num, by go_num, by omega, HYN, hR3, HTN, HDN, hT3⟩
                case measure => simp [intOf]; omega
            · have hlt' : ¬ (k2 : Int) < ((n - (j + 1) : Nat) : Int) := by omega
              have hkn : kk < n := by omega
              have hne2 : ¬ (c = kk) := by omega
              have hkI : (kk : Int) ≤ (n : Int) := by omega
              have hkc : (kk : Int) ≤ (c : Int) := by omega
              have hk0 : (0 : Int) ≤ (kk : Int) := by omega
              have HFE : Hid (ys.take kk = cmpR ids) := Lib.hid (by rw [HTK.out, List.take_of_length_le (by rw [HL.out]; omega)])
              obtain ⟨vs, hrun⟩ := run_clearH wr (c := c - kk) hR HY.out hkn
              have hR3 := hR.front vs (k := kk) (by rw [HY.out]; omega)
              have hT3 := hT.tr (setCells_turned g vs (kk * 32) wr)
              clear hR hT
              go_wp2_with (first | (refine wpList_clear rfl (.tmp 56) 58 rfl (.slice (some ⟨g, kk * 32, none⟩) (n - kk) (c - kk)) rfl _ hrun ?_))
              go_ret
              exact ⟨kk, c, rfl, by rw [← HFE.out, List.length_take, HY.out]; omega, by rw [← HFE.out]; exact hR3, hT3⟩
      · have hil' : ¬ (k : Int) < (n : Int) := by omega
        obtain rfl : n = k := by omega
        have HE : Hid (cmpR ids = ids) := Lib.hid (by have := HC.out; rwa [List.take_of_length_le (by rw [HL.out]; omega)] at this)
        go_wp2
        go_ret
        exact ⟨n, c, rfl, by rw [HE.out, HL.out], by rw [HE.out]; exact hR, hT⟩
/-! ### the sort, laid here (the numbers are those of the seat of round c) -/
def sortL_ren : Go.Shelf.Ren := ⟨fun | 6 => 69 | 15 => 82 | 14 => 81 | 28 => 93 | 29 => 94 | 20 => 85 | 21 => 86 | 22 => 87 | 23 => 88 | 24 => 89 | 25 => 90 | 26 => 91 | 27 => 92 | 46 => 96 | 47 => 97 | 48 => 98 | 49 => 99 | 50 => 100 | 57 => 101 | n => n, fun | 22 => 58 | 24 => 24 | 25 => 155 | 3 => 3 | 39 => 118 | 0 => 0 | 53 => 26 | 55 => 40 | 4 => 4 | 46 => 172 | 45 => 171 | 50 => 176 | 5 => 5 | 9 => 9 | 66 => 181 | 70 => 185 | 76 => 187 | 77 => 188 | n => n, fun | n => n⟩
theorem sortL : Go.Proofs.SlLaysF0.n6 Tryd.prog sortL_ren where
  mixed := by kernel_rfl
  f6 := ⟨ "slices.SortFunc[[]tailrace/api.Hash,tailrace/api.Hash]", by decide, Tryd.func69.trans (congrArg some (by kernel_rfl))⟩
  f14 := ⟨ "slices.pdqsortCmpFunc[tailrace/api.Hash]", by decide, Tryd.func81.trans (congrArg some (by kernel_rfl))⟩
  f15 := Tryd.func82.trans (congrArg some (by kernel_rfl))
  f20 := ⟨ "slices.insertionSortCmpFunc[tailrace/api.Hash]", by decide, Tryd.func85.trans (congrArg some (by kernel_rfl))⟩
  f21 := ⟨ "slices.heapSortCmpFunc[tailrace/api.Hash]", by decide, Tryd.func86.trans (congrArg some (by kernel_rfl))⟩
  f22 := ⟨ "slices.breakPatternsCmpFunc[tailrace/api.Hash]", by decide, Tryd.func87.trans (congrArg some (by kernel_rfl))⟩
  f23 := ⟨ "slices.choosePivotCmpFunc[tailrace/api.Hash]", by decide, Tryd.func88.trans (congrArg some (by kernel_rfl))⟩
  f24 := ⟨ "slices.reverseRangeCmpFunc[tailrace/api.Hash]", by decide, Tryd.func89.trans (congrArg some (by kernel_rfl))⟩
  f25 := ⟨ "slices.partialInsertionSortCmpFunc[tailrace/api.Hash]", by decide, Tryd.func90.trans (congrArg some (by kernel_rfl))⟩
  f26 := ⟨ "slices.partitionEqualCmpFunc[tailrace/api.Hash]", by decide, Tryd.func91.trans (congrArg some (by kernel_rfl))⟩
  f27 := ⟨ "slices.partitionCmpFunc[tailrace/api.Hash]", by decide, Tryd.func92.trans (congrArg some (by kernel_rfl))⟩
  f28 := Tryd.func93.trans (congrArg some (by kernel_rfl))
  f29 := Tryd.func94.trans (congrArg some (by kernel_rfl))
  f46 := ⟨ "slices.siftDownCmpFunc[tailrace/api.Hash]", by decide, Tryd.func96.trans (congrArg some (by kernel_rfl))⟩
  f47 := Tryd.func97.trans (congrArg some (by kernel_rfl))
  f48 := Tryd.func98.trans (congrArg some (by kernel_rfl))
  f49 := ⟨ "slices.medianAdjacentCmpFunc[tailrace/api.Hash]", by decide, Tryd.func99.trans (congrArg some (by kernel_rfl))⟩
  f50 := ⟨ "slices.medianCmpFunc[tailrace/api.Hash]", by decide, Tryd.func100.trans (congrArg some (by kernel_rfl))⟩
  f57 := ⟨ "slices.order2CmpFunc[tailrace/api.Hash]", by decide, Tryd.func101.trans (congrArg some (by kernel_rfl))⟩
  t0 := Tryd.underlying0
  a0 := Tryd.isAgg0
  z0 := Tryd.sizeOf0
  v0 := Tryd.zeroValue0
  t3 := Tryd.underlying3
  a3 := Tryd.isAgg3
  z3 := Tryd.sizeOf3
  v3 := Tryd.zeroValue3
  t4 := Tryd.underlying4
  a4 := Tryd.isAgg4
  z4 := Tryd.sizeOf4
  v4 := Tryd.zeroValue4
  t5 := Tryd.underlying5
  a5 := Tryd.isAgg5
  z5 := Tryd.sizeOf5
  v5 := Tryd.zeroValue5
  t9 := Tryd.underlying9
  a9 := Tryd.isAgg9
  z9 := Tryd.sizeOf9
  v9 := Tryd.zeroValue9
  t22 := Tryd.underlying58
  a22 := Tryd.isAgg58
  z22 := Tryd.sizeOf58
  v22 := Tryd.zeroValue58
  t25 := Tryd.underlying155
  a25 := Tryd.isAgg155
  z25 := Tryd.sizeOf155
  v25 := Tryd.zeroValue155
  t39 := Tryd.underlying118
  a39 := Tryd.isAgg118
  z39 := Tryd.sizeOf118
  v39 := Tryd.zeroValue118
  t45 := Tryd.underlying171
  a45 := Tryd.isAgg171
  z45 := Tryd.sizeOf171
  v45 := Tryd.zeroValue171
  t46 := Tryd.underlying172
  a46 := Tryd.isAgg172
  z46 := Tryd.sizeOf172
  v46 := Tryd.zeroValue172
  t50 := Tryd.underlying176
  a50 := Tryd.isAgg176
  z50 := Tryd.sizeOf176
  v50 := Tryd.zeroValue176
  t53 := Tryd.underlying26
  a53 := Tryd.isAgg26
  z53 := Tryd.sizeOf26
  v53 := Tryd.zeroValue26
  t55 := Tryd.underlying40
  a55 := Tryd.isAgg40
  z55 := Tryd.sizeOf40
  v55 := Tryd.zeroValue40
  t66 := Tryd.underlying181
  a66 := Tryd.isAgg181
  z66 := Tryd.sizeOf181
  v66 := Tryd.zeroValue181
  t70 := Tryd.underlying185
  a70 := Tryd.isAgg185
  z70 := Tryd.sizeOf185
  v70 := Tryd.zeroValue185
  t76 := Tryd.underlying187
  a76 := Tryd.isAgg187
  z76 := Tryd.sizeOf187
  v76 := Tryd.zeroValue187
  t77 := Tryd.underlying188
  a77 := Tryd.isAgg188
  z77 := Tryd.sizeOf188
  v77 := Tryd.zeroValue188
/-! ### the library's sort -/
theorem grownBy_sort {w : World} {g n : Nat} {os : Array Obj} (d : Array DigT) : w.grownBy (sortWorldK digE 32 w g 0 n d os) (some g) := by
  unfold sortWorldK putRowK
  refine ⟨rfl, rfl, rfl, by simp, fun k hk hne => ?_⟩
  rw [heap_grow_old _ _ (by simpa using hk)]
  have : g ≠ k := fun e => hne (by rw [e])
  simp [putRow, mapBlock, Sort.ahead, Array.getElem?_modify, this]
theorem holds_of_row {w : World} {g : Nat} {d : Array DigT} (h : RowH w g (d.toList.map (·.1))) : HoldsK digE 32 w g 0 d := by
  intro t ht
  have ht : t < d.size * 32 := by simpa using ht
  have hk : t / 32 < d.size := by omega
  have hx : (d.toList.map (·.1))[t / 32]? = some (d[t / 32]!).1 := by
    rw [List.getElem?_map, Array.getElem?_toList, Array.getElem?_eq_getElem hk, getElem!_pos d _ hk]
    rfl
  have hl := digE_len d[t / 32]!
  have hm : t % 32 < (digE d[t / 32]!).length := by rw [hl]; exact Nat.mod_lt _ (by omega)
  refine ⟨?_, h.fz _ (by simp; omega)⟩
  rw [get_flatK digE 32 d t ht, getElem!_pos (digE d[t / 32]!) (t % 32) hm]
  have := h.at_ _ _ hx (t % 32) _ (List.getElem?_eq_getElem hm)
  rw [show 0 + t = t / 32 * 32 + t % 32 by omega]
  exact this
theorem row_of_holds {w : World} {g : Nat} {d : Array DigT} (hg : g < w.heap.size) (h : HoldsK digE 32 w g 0 d) : RowH w g (d.toList.map (·.1)) := by
  refine ⟨hg, fun x hx => ?_, fun i x hx j v hv => ?_, fun j hj => ?_⟩
  · obtain ⟨y, _, rfl⟩ := List.mem_map.1 hx
    exact y.2
  · rw [List.getElem?_map] at hx
    obtain ⟨y, hy, rfl⟩ := Option.map_eq_some_iff.1 hx
    rw [Array.getElem?_toList] at hy
    have hi := (Array.getElem?_eq_some_iff.1 hy).1
    have hye : d[i]! = y := by
      rw [Array.getElem?_eq_getElem hi] at hy
      rw [getElem!_pos d i hi]
      exact Option.some.inj hy
    have hjl := (List.getElem?_eq_some_iff.1 hv).1
    have hj : j < 32 := by have := digE_len y; unfold digE at this; omega
    have hc := (h (i * 32 + j) (by simp; omega)).1
    have e1 : (i * 32 + j) / 32 = i := by omega
    have e2 : (i * 32 + j) % 32 = j := by omega
    rw [get_flatK digE 32 d _ (by omega), e1, e2, hye, Nat.zero_add] at hc
    rw [hc]
    have : digE y = nums .u8 y.1 := rfl
    rw [this, getElem!_pos _ j hjl]
    exact congrArg some (List.getElem?_eq_some_iff.1 hv).2
  · have := (h j (by simpa using hj)).2
    rwa [Nat.zero_add] at this
theorem arr_of : ∀ {ids : List (List Int)}, Digs ids → ∃ d : List DigT, d.map (·.1) = ids
  | [], _ => ⟨[], rfl⟩
  | x :: r, h => by
    obtain ⟨d, hd⟩ := arr_of (ids := r) (fun y hy => h y (List.mem_cons_of_mem _ hy))
    exact ⟨⟨x, h x List.mem_cons_self⟩ :: d, by rw [List.map_cons, hd]⟩
theorem sort_calls (w : World) (g n c : Nat) (ids : List (List Int)) (hl : ids.length = n) (hn : n ≤ 1000) (hR : RowH w g ids) :
    Calls Tryd.prog 69 #[.slice (some ⟨g, 0, none⟩) n c, .func (.func 70) #[] #[]] w fun e w' => e = .returned (.tuple #[]) ∧ ∃ ids', ids'.Perm ids ∧ ids'.Pairwise (fun a b => ¬ b < a) ∧ RowH w' g ids' ∧ w.grownBy w' (some g) := by
  obtain ⟨dl, rfl⟩ := arr_of hR.dig
  obtain ⟨d, hd⟩ : ∃ d : Array DigT, d.toList = dl := ⟨dl.toArray, by simp⟩
  subst hd
  obtain rfl : d.size = n := by rw [← hl]; simp
  have hH := holds_of_row hR
  have eg : ∀ args w, (callFunc 70 args).run Tryd.prog w = .ok (.enter 70 args) w := enters_of Tryd.func70 (by kernel_rfl) rfl
  have hcmp : CmpLays Tryd.prog 70 #[] digE 32 digC g 0 d.size w := fun m os dk _ x y => tclos_calls _ x.1 y.1 x.2 y.2
  have hcon := AnyQ.slices_SortFunc sortL 32 Tryd.isAgg24 Tryd.sizeOf24 digE digE_len digE_one digC digC_swo 70 #[] g 0 c d w eg hcmp hH hR.lt (by omega)
  change Calls Tryd.prog 69 _ _ _ at hcon
  refine hcon.mono ?_
  rintro e w' ⟨rfl, d', q, os, h1, h2, rfl⟩
  obtain ⟨hs, h3, h4⟩ := sorted_dig h1 h2
  refine ⟨rfl, _, h3, h4, row_of_holds (Nat.lt_of_lt_of_le hR.lt (size_sortWorldK_c digE 32 w g 0 q d' os)) (holdsK_sortWorldK_c digE 32 w g 0 d d' q os hH hR.lt hs), grownBy_sort d'⟩
set_option maxHeartbeats 4000000 in
theorem compact0_calls (w : World) (A : Option Addr) (c : Nat) : Calls Tryd.prog 72 #[.slice A 0 c] w fun e w' => e = .returned (.slice A 0 c) ∧ w' = w := by
  go_enter Tryd.func72, Tryd.ntmps72
  go_wp2
  go_ret
  exact ⟨rfl, rfl⟩
theorem cn_scr {w : World} {b o : Nat} {c : Cn} (h : w.rangeAt b o (cnCells c)) : w.rangeAt b (o + 1) (nums .u8 c.script) := fun j v hv => by
  have hj := (List.getElem?_eq_some_iff.1 hv).1
  have := h (j + 1) v (by
    unfold cnCells
    rw [List.getElem?_cons_succ, List.getElem?_append_left hj]
    exact hv)
  rwa [show o + (j + 1) = o + 1 + j by omega] at this
theorem us_scr {w : World} {b o : Nat} {u : Us} (hu : UsOk u) (h : w.rangeAt b o (usCells u)) : w.rangeAt b (o + 36) (nums .u8 u.coin.script) := fun j v hv => by
  have hl := ptL_length hu.1.1.1 u.pt.2
  have hj := (List.getElem?_eq_some_iff.1 hv).1
  have h1 := h (36 + j) v (by
    unfold usCells
    rw [show 36 + j = (33 + (j + 1)) + 1 + 1 by omega, List.getElem?_cons_succ, List.getElem?_cons_succ, List.getElem?_append_right (by rw [hl]; omega), hl, Nat.add_sub_cancel_left]
    unfold cnCells
    rw [List.getElem?_cons_succ, List.getElem?_append_left hj]
    exact hv)
  rw [show o + 36 + j = o + (36 + j) by omega]
  exact h1
theorem scrU_take {us : List Us} {i : Nat} {u : Us} (h : us[i]? = some u) : (scrU us).take i ++ [u.coin.script] = (scrU us).take (i + 1) := by
  have : (scrU us)[i]? = some u.coin.script := by unfold scrU; rw [List.getElem?_map, h]; rfl
  rw [List.take_add_one, this]
  rfl
theorem scrM_take {ms : List (Pt × Cn)} {i : Nat} {x : Pt × Cn} (h : ms[i]? = some x) : (scrM ms).take i ++ [x.2.script] = (scrM ms).take (i + 1) := by
  have : (scrM ms)[i]? = some x.2.script := by unfold scrM; rw [List.getElem?_map, h]; rfl
  rw [List.take_add_one, this]
  rfl
theorem row_of_own {w : World} {base N g c : Nat} {e : TypeId} {cells : List Value} {sc : List (List Int)} (hl : sc.length = N) (hw : w.ownsRow base e hashK.sz (.slice (some ⟨g, 0, none⟩) N c) N cells)
    (hc : ∀ i x, sc[i]? = some x → ∃ cs, hashK.K (fun _ => False) w x cs ∧ ∀ j u, cs[j]? = some u → cells[i * hashK.sz + j]? = some u) : RowH w g sc := by
  have hcell := hw.cells (g := g) rfl
  rcases hw.2 with ⟨hv, _⟩ | ⟨g', cap, cur, hv, _, hh, _⟩
  · cases hv
  · obtain rfl : g = g' := by injection hv with e1; injection e1 with e1; injection e1
    refine ⟨heap_lt hh, fun x hx => ?_, fun i x hx j v hv => ?_, fun j _ => blk_frozen hh j⟩
    · obtain ⟨i, hi⟩ := List.getElem?_of_mem hx
      obtain ⟨cs, hK, _⟩ := hc i x hi
      exact hK.2
    · obtain ⟨cs, hK, hcs⟩ := hc i x hx
      have hv' : cs[j]? = some v := by rw [hK.1]; exact hv
      have := hcell _ v (hcs j v hv')
      rwa [add_plain, show i * hashK.sz + j = i * 32 + j from rfl] at this
set_option maxHeartbeats 16000000 in
theorem touched_calls (w : World) (S S3 : Nat → Prop) (Vi : Value) (A2 A3 : Option Addr) (n2 c2 n3 c3 : Nat) (fees : Int) (us : List Us) (ms : List (Pt × Cn)) (hn2 : n2 ≤ 36) (hn3 : n3 ≤ 36) (hU : usK.C S w A2 n2 us) (hK : mkK.C S3 w A3 n3 ms) :
    Calls Tryd.prog 50 #[.agg #[Vi, .slice A2 n2 c2, .slice A3 n3 c3, .int .i64 fees]] w fun e w' => ∃ A m c l, e = .returned (.slice A m c) ∧ l.length = m ∧ HC w' A m l ∧ l.Pairwise (fun a b => a < b) ∧ (∀ x, x ∈ l ↔ x ∈ scrU us ++ scrM ms) ∧ Below w.heap.size w w' := by
  have hUU := Tryd.underlying108
  have hUK := Tryd.underlying110
  have hUH := Tryd.underlying24
  have hn2I : (n2 : Int) ≤ 36 := by omega
  have hn3I : (n3 : Int) ≤ 36 := by omega
  have HL2 := Lib.hid hU.len
  have HL3 := Lib.hid hK.len
  have h1 := heap_alloc_new w (.cells #[Vi, .slice A2 n2 c2, .slice A3 n3 c3, .int .i64 fees] 86)
  have hb0 : Below w.heap.size w (w.alloc (.cells #[Vi, .slice A2 n2 c2, .slice A3 n3 c3, .int .i64 fees] 86)) := (Below.refl _ _).alloc (Nat.le_refl _) _
  go_enter Tryd.func50, Tryd.ntmps50
  go_upto_region 1 with fail
  refine wp_gen (q := fun wi => Below w.heap.size w wi ∧ wi.heap[w.heap.size]? = some (.cells #[Vi, .slice A2 n2 c2, .slice A3 n3 c3, .int .i64 fees] 86)) ⟨hb0, h1⟩ (fun w0 hw => ?_)
  clear h1 hb0
  obtain ⟨hb0, g0⟩ := hw
  have hlt0 := heap_lt g0
  have hU0 := RK.C.below hU hb0
  have hK0 := RK.C.below hK hb0
  have t0 : w0.cell? ⟨w.heap.size, 1, none⟩ = some (.slice A2 n2 c2) := blk_cell g0 rfl
  have hO0 : HOwn w0 w0.heap.size 24 (.slice none 0 0) 0 ((scrU us).take 0) := by rw [List.take_zero]; exact RK.Own.nil _ _ _ _ _
  go_wp2
  go_loopw [3, 11] (fun v3 v11 wr => ∃ (i : Nat) (A : Option Addr) (c : Nat), i ≤ n2 ∧ v11 = .int .i64 i ∧ v3 = .slice A i c ∧ HOwn wr w0.heap.size 24 (.slice A i c) i ((scrU us).take i) ∧ Below w0.heap.size w0 wr) (fun _ v _ => n2 - (intOf v).toNat)
  case atStart => exact ⟨0, none, 0, by omega, rfl, rfl, hO0, Below.refl _ _⟩
  case round =>
    clear hO0
    obtain ⟨i, A, c, hi, rfl, rfl, hO, hb⟩ := hrel
    by_cases hil : i < n2
    · have hil' : (i : Int) < (n2 : Int) := by omega
      have hii : (0 : Int) ≤ (i : Int) := by omega
      obtain ⟨b3, o3, cs, u, hA, hx, ⟨rfl, huk⟩, hc⟩ := (RK.C.below hU0 hb).get i hil
      have hr : wr.rangeAt b3 (o3 + i * 70) (usCells u) := hc
      have i1 := info_us huk
      have i2 := info_usA huk
      have hds := huk.2.sc
      have HX := Lib.hid (scrU_take hx)
      obtain ⟨sd, hsd⟩ : ∃ s, u.coin.script = s := ⟨_, rfl⟩
      rw [hsd] at hds HX
      have HSD := Lib.hid hsd
      have ih := info_hh sd hds.1
      subst hA
      clear hc hx hsd
      go_upto_region 5 with (first
        | ((with_reducible refine wpList_at 14 ?_); refine wpList_load_mid rfl 108 (.tmp 13) rfl b3 (o3 + i * 70) rfl (usCells u) _ hr hUU rfl i1 ?_)
        | ((with_reducible refine wpList_atS 5 ?_); refine wpList_store_any rfl 108 (.tmp 5) (.tmp 14) rfl wr.heap.size (usCells u).toArray rfl rfl 108 (usCells us0).toArray (heap_alloc_new _ _) i2 (size_us us0_ok huk) (usCells_all _) ?_; intro wx gx htx))
      have hbx : Below wr.heap.size wr wx := htx.below ((Below.refl _ _).alloc (Nat.le_refl _) _) (Nat.le_refl _)
      have hbB := below_then hb hb.size hbx
      have rS : wx.rangeAt wr.heap.size 36 (nums .u8 sd) := by have := us_scr huk (range_block (xs := usCells u) gx); rwa [Nat.zero_add, HSD.out] at this
      have hO1 := hO.below hbx
      have hq1 := RK.Own.alloc hO1 (.cells (nums .u8 sd).toArray 24)
      have hq2 := HC.one (heap_alloc_new wx (.cells (nums .u8 sd).toArray 24)) hds (fun _ => True) trivial
      have hbA : Below w0.heap.size w0 (wx.alloc (.cells (nums .u8 sd).toArray 24)) := below_then hbB hbB.size ((Below.refl _ _).alloc (Nat.le_refl _) _)
      have hq3 := hbA.size
      have HLO := Lib.hid (fun q e => (RK.Own.lt hO q e).1)
      clear gx htx hbx hb hr hO hO1 hbB
      go_upto_region 6 with (first
        | ((with_reducible refine wpList_at 18 ?_); refine wpList_load_mid rfl 24 (.tmp 17) rfl wr.heap.size 36 rfl (nums .u8 sd) _ rS hUH rfl ih ?_)
        | ((with_reducible refine wpList_at 19 ?_); refine wpList_build1 rfl 58 24 _ rfl Tryd.underlying58 _ 32 32 zinfo_hash (by decide) (by decide) (nums .u8 sd) (by rw [nums_length]; exact hds.1) rfl rfl ?_)
        | ((with_reducible refine wpList_at 20 ?_); refine RK.wpList_appK hashK _ rfl (.tmp 15) (.tmp 19) 58 rfl (fun _ => False) w0.heap.size 24 _ 32 Tryd.underlying58 zinfo_hash zsz32 (by show 0 < 32; omega) (.slice A i c) i _ rfl hq1 (fun _ h => h.elim) _ 1 1 [sd] rfl (fun _ => True) hq2 (fun _ _ h => h) (i + 1) _ rfl HX.out (by unfold maxLen; omega) (by omega) hq3 ?_
           intro A6 c6 w6 hO6 hG6 hx6
           have hB6 := hbA.grown hG6 hbA.size HLO.out
           clear hq1 hq2 hq3 hbA rS hG6 hx6
           refine wp_stopper ?_))
      refine Lib.hid ?_
      go_wp2
      go_roundw
      case rel => exact ⟨i + 1, A6, c6, by omega, by go_num, rfl, hO6, hB6⟩
      case measure => simp [intOf]; omega
    · have hil' : ¬ (i : Int) < (n2 : Int) := by omega
      obtain rfl : n2 = i := by omega
      rename World => wp
      have hOp : HOwn wp w0.heap.size 24 (.slice A (n2 + 0) c) (n2 + 0) (scrU us ++ (scrM ms).take 0) := by
        rw [List.take_zero, List.append_nil, Nat.add_zero]
        rw [List.take_of_length_le (by unfold scrU; rw [List.length_map, HL2.out]; omega)] at hO
        exact hO
      have t1 : wp.cell? ⟨w.heap.size, 2, none⟩ = some (.slice A3 n3 c3) := cell_below hb (blk_cell g0 rfl)
      clear hO t0
      go_wp2
      go_loopw [3, 25] (fun v3 v25 wr => ∃ (i : Nat) (A : Option Addr) (c : Nat), i ≤ n3 ∧ v25 = .int .i64 i ∧ v3 = .slice A (n2 + i) c ∧ HOwn wr w0.heap.size 24 (.slice A (n2 + i) c) (n2 + i) (scrU us ++ (scrM ms).take i) ∧ Below w0.heap.size w0 wr) (fun _ v _ => n3 - (intOf v).toNat)
      case atStart => exact ⟨0, A, c, by omega, rfl, rfl, hOp, hb⟩
      case round =>
        clear hOp hb t1
        obtain ⟨i, A, c, hi, rfl, rfl, hO, hb⟩ := hrel
        by_cases hil : i < n3
        · have hil' : (i : Int) < (n3 : Int) := by omega
          have hii : (0 : Int) ≤ (i : Int) := by omega
          obtain ⟨b3, o3, cs, x, hA, hx, ⟨rfl, hxk⟩, hc⟩ := (RK.C.below hK0 hb).get i hil
          have hr : wr.rangeAt b3 (o3 + i * 68) (mkCells x) := hc
          have i1 := info_mk hxk
          have i2 := info_mkA hxk
          have hds := hxk.2.sc
          have HX := Lib.hid (scrM_take hx)
          obtain ⟨sd, hsd⟩ : ∃ s, x.2.script = s := ⟨_, rfl⟩
          rw [hsd] at hds HX
          have HSD := Lib.hid hsd
          have HX2 : Hid ((scrU us ++ (scrM ms).take i) ++ [sd] = scrU us ++ (scrM ms).take (i + 1)) := Lib.hid (by rw [List.append_assoc, HX.out])
          have ih := info_hh sd hds.1
          subst hA
          clear hc hx hsd
          go_upto_region 10 with (first
            | ((with_reducible refine wpList_at 28 ?_); refine wpList_load_mid rfl 110 (.tmp 27) rfl b3 (o3 + i * 68) rfl (mkCells x) _ hr hUK rfl i1 ?_)
            | ((with_reducible refine wpList_atS 7 ?_); refine wpList_store_any rfl 110 (.tmp 7) (.tmp 28) rfl wr.heap.size (mkCells x).toArray rfl rfl 110 (mkCells mk0).toArray (heap_alloc_new _ _) i2 (size_mk mk0_ok hxk) (mkCells_all _) ?_; intro wx gx htx))
          have hbx : Below wr.heap.size wr wx := htx.below ((Below.refl _ _).alloc (Nat.le_refl _) _) (Nat.le_refl _)
          have hbB := below_then hb hb.size hbx
          have rS : wx.rangeAt wr.heap.size 34 (nums .u8 sd) := by have := cn_scr (mkCells_cn hxk (range_block (xs := mkCells x) gx)); rwa [Nat.zero_add, HSD.out] at this
          have hO1 := hO.below hbx
          have hq1 := RK.Own.alloc hO1 (.cells (nums .u8 sd).toArray 24)
          have hq2 := HC.one (heap_alloc_new wx (.cells (nums .u8 sd).toArray 24)) hds (fun _ => True) trivial
          have hbA : Below w0.heap.size w0 (wx.alloc (.cells (nums .u8 sd).toArray 24)) := below_then hbB hbB.size ((Below.refl _ _).alloc (Nat.le_refl _) _)
          have hq3 := hbA.size
          have HLO := Lib.hid (fun q e => (RK.Own.lt hO q e).1)
          clear gx htx hbx hb hr hO hO1 hbB
          go_upto_region 11 with (first
            | ((with_reducible refine wpList_at 32 ?_); refine wpList_load_mid rfl 24 (.tmp 31) rfl wr.heap.size 34 rfl (nums .u8 sd) _ rS hUH rfl ih ?_)
            | ((with_reducible refine wpList_at 33 ?_); refine wpList_build1 rfl 58 24 _ rfl Tryd.underlying58 _ 32 32 zinfo_hash (by decide) (by decide) (nums .u8 sd) (by rw [nums_length]; exact hds.1) rfl rfl ?_)
            | ((with_reducible refine wpList_at 34 ?_); refine RK.wpList_appK hashK _ rfl (.tmp 29) (.tmp 33) 58 rfl (fun _ => False) w0.heap.size 24 _ 32 Tryd.underlying58 zinfo_hash zsz32 (by show 0 < 32; omega) (.slice A (n2 + i) c) (n2 + i) _ rfl hq1 (fun _ h => h.elim) _ 1 1 [sd] rfl (fun _ => True) hq2 (fun _ _ h => h) (n2 + (i + 1)) _ rfl HX2.out (by unfold maxLen; omega) (by omega) hq3 ?_
               intro A6 c6 w6 hO6 hG6 hx6
               have hB6 := hbA.grown hG6 hbA.size HLO.out
               clear hq1 hq2 hq3 hbA rS hG6 hx6
               refine wp_stopper ?_))
          refine Lib.hid ?_
          go_wp2
          go_roundw
          case rel => exact ⟨i + 1, A6, c6, by omega, by go_num, rfl, hO6, hB6⟩
          case measure => simp [intOf]; omega
        · have hil' : ¬ (i : Int) < (n3 : Int) := by omega
          obtain rfl : n3 = i := by omega
          rename World => wq
          rw [List.take_of_length_le (by unfold scrM; rw [List.length_map, HL3.out]; omega)] at hO
          obtain ⟨N, hN⟩ : ∃ N, n2 + n3 = N := ⟨_, rfl⟩
          rw [hN] at hO ⊢
          have hN72 : N ≤ 72 := by omega
          have hBq := below_then hb0 hb0.size hb
          have hls := RK.Own.le_ hO
          have hll := RK.Own.len hO
          have hlo := Lib.hid (fun q e => (RK.Own.lt hO q e).1 : ∀ q, (Value.slice A N c).ownBlock = some q → w0.heap.size ≤ q)
          have hsz := hb0.size
          obtain ⟨sc, hsc⟩ : ∃ sc, scrU us ++ scrM ms = sc := ⟨_, rfl⟩
          rw [hsc] at hO hll
          have HSC := Lib.hid hsc
          clear hsc hN
          by_cases hN0 : N = 0
          · subst hN0
            have hs := AnyF.slices_SortFunc_none (P := Tryd.prog) sortL A c (.func (.func 70) #[] #[]) wq
            change Calls Tryd.prog 69 _ _ _ at hs
            have hnil : sc = [] := List.eq_nil_of_length_eq_zero hll
            have HNIL := Lib.hid hnil
            clear hnil hll hO
            go_wp2_with fail
            refine hs.mono ?_
            rintro e w2 ⟨rfl, rfl⟩
            go_wp2_with fail
            refine (compact0_calls w2 A c).mono ?_
            rintro e w3 ⟨rfl, rfl⟩
            go_wp2
            go_ret
            exact ⟨A, 0, c, [], rfl, rfl, RK.C.nil _ _ _ _, List.Pairwise.nil, fun x => by rw [HSC.out, HNIL.out], hBq⟩
          · obtain ⟨_, cells, how, hcells⟩ := hO
            obtain ⟨g, cap, hv, hbg, hlt⟩ := how.form (by omega)
            obtain ⟨rfl, rfl⟩ : A = some ⟨g, 0, none⟩ ∧ c = cap := by injection hv with e1 e2 e3; exact ⟨e1, e3⟩
            have hRow : RowH wq g sc := row_of_own hll how hcells
            have hs := sort_calls wq g N c sc hll (by omega) hRow
            clear how hcells hv hRow
            go_wp2_with fail
            refine hs.mono ?_
            clear hs
            rintro e w2 ⟨rfl, ids', hp, ha, hR2, hG2⟩
            have hB2 : Below w.heap.size w w2 := hBq.grown hG2 hBq.size (fun q e => by obtain rfl := Option.some.inj e; omega)
            have hl2 : ids'.length = N := by rw [hp.length_eq]; exact hll
            have hCp := compact_calls w2 g N c ids' hl2 (by omega) hls.1 hls.2 hR2
            have HP := Lib.hid hp
            have HA := Lib.hid ha
            clear hp ha hR2 hG2 hl2
            go_wp2_with fail
            refine hCp.mono ?_
            clear hCp
            rintro e w3 ⟨m, c', rfl, hm, hR3, hT3⟩
            have hB3 := hT3.below hB2 (by omega)
            go_wp2
            go_ret
            exact ⟨_, m, c', cmpR ids', rfl, hm, by rw [← hm]; exact hR3.C, cmpR_asc ids' HA.out, fun x => by rw [cmpR_mem, HP.out.mem_iff, HSC.out], hB3⟩
end Go.Proofs.YtclkgflficlmiaaDoor
