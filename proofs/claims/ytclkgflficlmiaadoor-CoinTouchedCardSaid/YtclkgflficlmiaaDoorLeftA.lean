/- Rows of outputs that lie in a block of the call's own: cut out, put in, cleared. | coin.Diff.Left: what is made and not spent. | The law's example, in plain terms. | Law 19's head: the document's example holds. -/
import Derived.Test.YtclkgflficlmiaaDoorCoinA
import Derived.Test.YtclkgflficlmiaaDoorBldA
import Derived.Lib.SliceRun
import Derived.Test.YtclkgflficlmiaaDoorCoinB
/-! ## LeftP -/
section
set_option maxRecDepth 100000
set_option linter.unusedVariables false
namespace Go.Proofs.YtclkgflficlmiaaDoor
open Go Go.RowKit
def flatM (xs : List (Pt × Cn)) : List Value := xs.flatMap mkCells
theorem flatM_length : ∀ (xs : List (Pt × Cn)), (∀ x ∈ xs, MkOk x) → (flatM xs).length = xs.length * 68
  | [], _ => rfl
  | x :: r, h => by
    show (mkCells x ++ flatM r).length = _
    rw [List.length_append, mkCells_length (h x (by simp)), flatM_length r (fun y hy => h y (by simp [hy])), List.length_cons]
    omega
theorem flatM_append (xs ys : List (Pt × Cn)) : flatM (xs ++ ys) = flatM xs ++ flatM ys := List.flatMap_append
theorem flatM_one (xs : List (Pt × Cn)) : ∀ u ∈ flatM xs, u.oneCell' = true := fun u hu => by
  obtain ⟨x, _, hx⟩ := List.mem_flatMap.1 hu
  exact mkCells_one x u hx
theorem flatM_split {xs : List (Pt × Cn)} {i : Nat} {x : Pt × Cn} (hx : xs[i]? = some x) : flatM xs = flatM (xs.take i) ++ (mkCells x ++ flatM (xs.drop (i + 1))) := by
  obtain ⟨hi, he⟩ := List.getElem?_eq_some_iff.1 hx
  have h1 : xs = xs.take i ++ (x :: xs.drop (i + 1)) := by rw [← he, ← List.drop_eq_getElem_cons hi, List.take_append_drop]
  conv => lhs; rw [h1]
  rw [flatM_append]
  rfl
/-- Block g holds these rows, and more behind them. -/
def RowB (w : World) (g : Nat) (xs : List (Pt × Cn)) (rest : List Value) : Prop := w.heap[g]? = some (.cells (flatM xs ++ rest).toArray 110) ∧ ∀ x ∈ xs, MkOk x
theorem RowB.below {w w' : World} {g : Nat} {xs : List (Pt × Cn)} {rest : List Value} (h : RowB w g xs rest) (hb : Below w.heap.size w w') : RowB w' g xs rest := ⟨heap_below hb h.1, h.2⟩
theorem RowB.range {w : World} {g : Nat} {xs : List (Pt × Cn)} {rest : List Value} (h : RowB w g xs rest) {i : Nat} {x : Pt × Cn} (hx : xs[i]? = some x) : w.rangeAt g (i * 68) (mkCells x) := fun j v hv => by
  have hi := (List.getElem?_eq_some_iff.1 hx).1
  refine blk_cell h.1 ?_
  rw [List.getElem?_toArray, flatM_split hx]
  have hl : (flatM (xs.take i)).length = i * 68 := by
    rw [flatM_length _ (fun y hy => h.2 y ((List.take_sublist _ _).subset hy)), List.length_take, Nat.min_eq_left (by omega)]
  have hj := (List.getElem?_eq_some_iff.1 hv).1
  rw [List.append_assoc, List.getElem?_append_right (by omega), hl, show i * 68 + j - i * 68 = j by omega, List.append_assoc, List.getElem?_append_left hj]
  exact hv
theorem RowB.set {w w' : World} {g : Nat} {xs : List (Pt × Cn)} {rest : List Value} (h : RowB w g xs rest) {i : Nat} (hi : i < xs.length) {x : Pt × Cn} (hx : MkOk x) (hg : w'.heap[g]? = some (.cells (putL (flatM xs ++ rest).toArray (i * 68) (mkCells x)) 110)) : RowB w' g (xs.set i x) rest := by
  have hy := List.getElem?_eq_getElem hi
  have hl : (flatM (xs.take i)).length = i * 68 := by
    rw [flatM_length _ (fun y hy => h.2 y ((List.take_sublist _ _).subset hy)), List.length_take, Nat.min_eq_left (by omega)]
  have hyo := h.2 xs[i] (List.getElem_mem hi)
  have h1 := putL_mid (mkCells x) (mkCells xs[i]) (flatM (xs.take i)) (flatM (xs.drop (i + 1)) ++ rest) (by rw [mkCells_length hyo, mkCells_length hx])
  have hset : flatM (xs.set i x) = flatM (xs.take i) ++ (mkCells x ++ flatM (xs.drop (i + 1))) := by
    have h2 := flatM_split (xs := xs.set i x) (i := i) (x := x) (by rw [List.getElem?_set_self hi])
    rw [h2]
    congr 1
    · congr 1
      rw [List.take_set_of_le (Nat.le_refl _)]
    · congr 1
      rw [List.drop_set_of_lt (by omega)]
  refine ⟨?_, fun y hy => ?_⟩
  · rw [hg, hset]
    congr 2
    rw [flatM_split hy]
    rw [hl] at h1
    simp only [List.append_assoc] at h1 ⊢
    exact h1
  · rcases List.mem_or_eq_of_mem_set hy with hy | rfl
    · exact h.2 y hy
    · exact hx
theorem putL_take : ∀ (vs : List Value) (o : Nat) (C : Array Value), (putL C o vs).toList.take o = C.toList.take o ∧ (putL C o vs).size = C.size
  | [], o, C => ⟨rfl, rfl⟩
  | v :: vs, o, C => by
    obtain ⟨h1, h2⟩ := putL_take vs (o + 1) (C.setIfInBounds o v)
    refine ⟨?_, by rw [putL, h2, Array.size_setIfInBounds]⟩
    have h3 := congrArg (List.take o) h1
    rw [List.take_take, List.take_take, Nat.min_eq_left (by omega)] at h3
    rw [putL, h3, Array.toList_setIfInBounds, List.take_set_of_le (Nat.le_refl _)]
/-- Of the call's own: where it lies. -/
theorem own_rowB {w : World} {base n c : Nat} {A : Option Addr} {xs : List (Pt × Cn)} (h : mkK.Own (fun _ => False) w base 110 (.slice A n c) n xs) (hn : 0 < n) :
    ∃ g rest, A = some ⟨g, 0, none⟩ ∧ base ≤ g ∧ RowB w g xs rest ∧ n ≤ c ∧ c ≤ maxLen ∧ (flatM xs ++ rest).length = c * 68 := by
  obtain ⟨h1, cells, ⟨hl, h2⟩, h3⟩ := h
  rcases h2 with ⟨hv, h0⟩ | ⟨g, cap, cur, hv, hbg, hg, h4, h5, h6, h7⟩
  · omega
  · injection hv with e1 e2 e3
    subst e3
    have hok : ∀ x ∈ xs, MkOk x := fun x hx => by
      obtain ⟨i, hi⟩ := List.getElem?_of_mem hx
      obtain ⟨cs, ⟨_, hk⟩, _⟩ := h3 i x hi
      exact hk
    have hfl := flatM_length xs hok
    have hcells : cells = flatM xs := by
      apply List.ext_getElem?
      intro q
      rcases Nat.lt_or_ge q (n * 68) with hq | hq
      · have hi : q / 68 < xs.length := by rw [h1]; omega
        have hx := List.getElem?_eq_getElem hi
        obtain ⟨cs, ⟨rfl, hk⟩, hcs⟩ := h3 (q / 68) _ hx
        have hlen := mkCells_length hk
        have hj : q % 68 < (mkCells xs[q / 68]).length := by rw [hlen]; exact Nat.mod_lt _ (by decide)
        have h8 := hcs (q % 68) _ (List.getElem?_eq_getElem hj)
        have e8 : q / 68 * mkK.sz + q % 68 = q := by show q / 68 * 68 + q % 68 = q; omega
        rw [e8] at h8
        rw [h8, flatM_split hx]
        have hl2 : (flatM (xs.take (q / 68))).length = q / 68 * 68 := by
          rw [flatM_length _ (fun y hy => hok y ((List.take_sublist _ _).subset hy)), List.length_take, Nat.min_eq_left (by omega)]
        rw [List.getElem?_append_right (by omega), hl2, show q - q / 68 * 68 = q % 68 by omega, List.getElem?_append_left hj, List.getElem?_eq_getElem hj]
      · rw [List.getElem?_eq_none (by rw [hl]; exact hq), List.getElem?_eq_none (by rw [hfl, h1]; exact hq)]
    refine ⟨g, cur.toList.drop (n * 68), e1, hbg, ⟨?_, hok⟩, h4, h5, ?_⟩
    · rw [hg, ← hcells, ← h7]
      congr 2
      show cur = (cur.toList.take (n * mkK.sz) ++ cur.toList.drop (n * 68)).toArray
      rw [show n * mkK.sz = n * 68 from rfl, List.take_append_drop]
    · have hcl : cur.toList.length = c * 68 := by rw [Array.length_toList, h6]; rfl
      rw [List.length_append, hfl, List.length_drop, hcl, h1]
      have := Nat.mul_le_mul_right 68 h4
      omega
theorem rowB_own {w : World} {base g i c : Nat} {cur : Array Value} {ys : List (Pt × Cn)} (hg : w.heap[g]? = some (.cells cur 110)) (hb : base ≤ g) (hic : i ≤ c) (hc : c ≤ maxLen) (hs : cur.size = c * 68) (hok : ∀ y ∈ ys, MkOk y) (hl : ys.length = i) (ht : cur.toList.take (i * 68) = flatM ys) :
    mkK.Own (fun _ => False) w base 110 (.slice (some ⟨g, 0, none⟩) i c) i ys := by
  refine ⟨hl, flatM ys, ⟨by rw [flatM_length ys hok, hl]; rfl, .inr ⟨g, c, cur, rfl, hb, hg, hic, hc, hs, ht⟩⟩, fun j y hy => ⟨mkCells y, ⟨rfl, hok y (List.mem_of_getElem? hy)⟩, fun q u hu => ?_⟩⟩
  have hj := (List.getElem?_eq_some_iff.1 hy).1
  have hl2 : (flatM (ys.take j)).length = j * 68 := by
    rw [flatM_length _ (fun y hy => hok y ((List.take_sublist _ _).subset hy)), List.length_take, Nat.min_eq_left (by omega)]
  rw [flatM_split hy]
  have hq := (List.getElem?_eq_some_iff.1 hu).1
  rw [show j * mkK.sz + q = j * 68 + q from rfl, List.getElem?_append_right (by omega), hl2, show j * 68 + q - j * 68 = q by omega, List.getElem?_append_left hq]
  exact hu
/-! ### cuts and clear -/
theorem info_made : ∃ i, Tryd.prog.info? 110 = some i ∧ i.size = 68 := by
  have h : (Tryd.prog.info? 110).map (·.size) = some 68 := by kernel_rfl
  cases h2 : Tryd.prog.info? 110 with
  | none => rw [h2] at h; cases h
  | some i => rw [h2] at h; exact ⟨i, rfl, by simpa using h⟩
theorem cutM_tail (g n c m : Nat) (hm : m < n) (hc : n ≤ c) (W : World) : (Instr.slice 84 (.slice (some ⟨g, 0, none⟩) n c) (some (.int .i64 (m : Int))) none none).run Tryd.prog W = .ok (.slice (some ⟨g, m * 68, none⟩) (n - m) (c - m)) W := by
  obtain ⟨i, hi, hs⟩ := info_made
  have hel : Tryd.prog.elem 84 = 110 := by simp [Program.elem, Tryd.underlying84]
  have hu : Tryd.prog.underlying 84 = some (.slice (Tryd.prog.elem 84)) := by rw [hel]; exact Tryd.underlying84
  rw [run_slice_l W 84 (some ⟨g, 0, none⟩) n c hu .i64 (m : Int) (Int.natCast_nonneg _) (by omega), hel]
  have hne : ¬ c = m := by omega
  simp [sizeOf, typeInfo, hi, hs, sliced, Result.andThen, hne, add_plain]
theorem cutM_head (A : Option Addr) (n c m : Nat) (hm : m ≤ c) (W : World) : (Instr.slice 84 (.slice A n c) none (some (.int .i64 (m : Int))) none).run Tryd.prog W = .ok (.slice A m c) W := by
  obtain ⟨i, hi, hs⟩ := info_made
  have hel : Tryd.prog.elem 84 = 110 := by simp [Program.elem, Tryd.underlying84]
  have hu : Tryd.prog.underlying 84 = some (.slice (Tryd.prog.elem 84)) := by rw [hel]; exact Tryd.underlying84
  rw [run_slice_h W 84 A n c hu .i64 (m : Int) (Int.natCast_nonneg _) (by omega), hel]
  rcases A with _ | a <;> simp [sizeOf, typeInfo, hi, hs, sliced, Result.andThen, add_zero_addr]
theorem zero_mk (w : World) : (zeroValue 110).run Tryd.prog w = .ok (.agg (mkCells mk0).toArray) w := by kernel_rfl
theorem clear_made (w : World) (g o n c : Nat) (hn : 0 < n) (C : Array Value) (hg : w.heap[g]? = some (.cells C 110)) (hl : o + n * 68 ≤ C.size) :
    ∃ w' vs, (∀ ty, (Builtin.clear_ #[84] ty #[.slice (some ⟨g, o, none⟩) n c]).run Tryd.prog w = .ok (.tuple #[]) w') ∧ w'.heap[g]? = some (.cells (putL C o vs) 110) ∧ Turned w g w' := by
  have hzs : (mkCells mk0).toArray.size = 68 := rfl
  have hzl : (Builtin.zeroCells (mkCells mk0).toArray n).toList.length = n * 68 := by
    simp [Builtin.zeroCells, hzs]
  have h1 : ∀ v ∈ (Builtin.zeroCells (mkCells mk0).toArray n).toList, v.oneCell' = true := by
    intro v hv
    have hall : ∀ u ∈ (mkCells mk0), u.oneCell' = true := mkCells_one mk0
    simp only [Builtin.zeroCells, Array.toList_map, List.mem_map] at hv
    obtain ⟨k, _, rfl⟩ := hv
    have hk : k % (mkCells mk0).toArray.size < (mkCells mk0).toArray.size := Nat.mod_lt _ (by rw [hzs]; decide)
    rw [getElem!_pos (mkCells mk0).toArray _ hk]
    exact hall _ (by simp)
  have hst := run_storeCells_cells (P := Tryd.prog) g o (Builtin.zeroCells (mkCells mk0).toArray n).toList 0 w (fun j hj => by
      rw [hzl] at hj
      rw [show o + 0 + j = o + j by omega, blk_cell hg (Array.getElem?_eq_getElem (show o + j < C.size by omega))]
      rfl) (fun j hj => blk_frozen hg _) h1
  simp only [Nat.add_zero] at hst
  obtain ⟨k1, k2⟩ := setCells_block (Builtin.zeroCells (mkCells mk0).toArray n).toList o w C hg
  obtain ⟨m, rfl⟩ : ∃ m, n = m + 1 := ⟨n - 1, by omega⟩
  refine ⟨_, _, fun ty => ?_, k1, k2⟩
  have hz2 : (Value.agg Tryd.zeroCells110).cells = (mkCells mk0).toArray := by kernel_rfl
  simp [Builtin.clear_, run_underlying Tryd.underlying84, hz2, hst]
end Go.Proofs.YtclkgflficlmiaaDoor
end

/-! ## Left -/
section
set_option maxRecDepth 100000
set_option linter.unusedVariables false
namespace Go.Proofs.YtclkgflficlmiaaDoor
open Go Go.RowKit
abbrev clV (gC : Nat) : Value := .func (.func 68) #[] #[.pointer (some ⟨gC, 0, none⟩)]
def spentB (sp : List (Pt × Bool)) (x : Pt × Cn) : Bool := (sp.lookup x.1).getD false
/-- What the closure sees: its captured variable's block, the map. -/
def ClM (gC gM : Nat) (sp : List (Pt × Bool)) (w : World) : Prop := w.heap[gC]? = some (.cells #[.map (some gM)] 142) ∧ MapV PtOk w gM pkv Value.bool sp
theorem ClM.below {gC gM : Nat} {sp : List (Pt × Bool)} {w w' : World} (h : ClM gC gM sp w) (hb : Below w.heap.size w w') : ClM gC gM sp w' := ⟨heap_below hb h.1, h.2.below hb⟩
theorem info_mkA {x : Pt × Cn} (h : MkOk x) : (Tryd.prog.info? 110).map (·.size) = some (mkCells x).toArray.size := by rw [List.size_toArray, mkCells_length h]; kernel_rfl
theorem info_mk {x : Pt × Cn} (h : MkOk x) : (Tryd.prog.info? 110).map (·.size) = some (mkCells x).length := by rw [mkCells_length h]; kernel_rfl
theorem size_mk {x y : Pt × Cn} (h : MkOk x) (k : MkOk y) : (mkCells x).toArray.size = (mkCells y).toArray.size := by rw [List.size_toArray, List.size_toArray, mkCells_length h, mkCells_length k]
theorem mk0_ok : MkOk mk0 := ⟨⟨zeros32_dig, by decide, by decide⟩, cn0_ok⟩
theorem range_mk_pt {w : World} {b o : Nat} {x : Pt × Cn} (h : w.rangeAt b o (mkCells x)) : w.rangeAt b o (ptL x.1.1 x.1.2) := range_take h
set_option maxHeartbeats 4000000 in
theorem clos_calls (w : World) (gC gM : Nat) (sp : List (Pt × Bool)) (hC : ClM gC gM sp w) (x : Pt × Cn) (hx : MkOk x) :
    Calls Tryd.prog 68 #[.agg (mkCells x).toArray, .pointer (some ⟨gC, 0, none⟩)] w fun e w' => e = .returned (.bool (spentB sp x)) ∧ Below w.heap.size w w' := by
  have hUP := Tryd.underlying64
  have hUS := Tryd.underlying142
  have h1 := heap_alloc_new w (.cells (mkCells x).toArray 110)
  have hb0 : Below w.heap.size w (w.alloc (.cells (mkCells x).toArray 110)) := (Below.refl _ _).alloc (Nat.le_refl _) _
  go_enter Tryd.func68, Tryd.ntmps68
  go_upto_region 1 with fail
  refine wp_gen (q := fun wi => Below w.heap.size w wi ∧ wi.heap[w.heap.size]? = some (.cells (mkCells x).toArray 110)) ⟨hb0, h1⟩ (fun w0 hw => ?_)
  clear h1 hb0
  obtain ⟨hb0, g1⟩ := hw
  have hC0 := hC.below hb0
  have c0 := blk_cell hC0.1 (i := 0) (v := .map (some gM)) rfl
  have r0 := range_mk_pt (range_block (xs := mkCells x) g1)
  have hlk := MapV.look (P := Tryd.prog) false keyPt hUS (zero_bool w0) hC0.2 hx.1
  have hrun : (Instr.lookup 142 (.map (some gM)) (.agg (ptL x.1.1 x.1.2).toArray) false).run Tryd.prog w0 = .ok (.bool (spentB sp x)) w0 := by
    refine Eq.trans hlk ?_
    unfold spentB
    cases sp.lookup x.1 <;> rfl
  have i1 := info_pt hx.1.1.1 x.1.2
  clear hlk
  go_wp2_with (first
    | ((with_reducible refine wpList_at 6 ?_); refine wpList_load_mid rfl 64 (.tmp 5) rfl w.heap.size 0 rfl (ptL x.1.1 x.1.2) _ r0 hUP rfl i1 ?_)
    | ((with_reducible refine wpList_at 7 ?_); refine wpList_lookV rfl (.tmp 4) (.tmp 6) 142 false rfl (.map (some gM)) (.agg (ptL x.1.1 x.1.2).toArray) _ rfl rfl hrun ?_))
  go_ret
  exact ⟨rfl, hb0⟩
set_option maxHeartbeats 4000000 in
theorem clone_calls (w : World) (b0 n c : Nat) (A : Option Addr) (xs : List (Pt × Cn)) (hn : n ≤ 2000000000) (hO : mkK.Own (fun _ => False) w b0 110 (.slice A n c) n xs) :
    Calls Tryd.prog 67 #[.slice A n c] w fun e w' => ∃ A' c', e = .returned (.slice A' n c') ∧ mkK.Own (fun _ => False) w' w.heap.size 110 (.slice A' n c') n xs ∧ Below w.heap.size w w' := by
  rcases A with _ | a
  · have hz : n = 0 ∧ c = 0 := by
      obtain ⟨_, cells, ⟨_, h2⟩, _⟩ := hO
      rcases h2 with ⟨hv, h0⟩ | ⟨g, cap, cur, hv, _⟩
      · injection hv with _ e2 e3
        exact ⟨e2, e3⟩
      · cases hv
    obtain ⟨rfl, rfl⟩ := hz
    have hxs : xs = [] := List.eq_nil_of_length_eq_zero hO.len
    subst hxs
    have hb : Below w.heap.size w w := Below.refl _ _
    have q1 := fun W => Lib.run_eql_slice_nil (P := Tryd.prog) W 84 110 none 0 0 0 0 Tryd.underlying84
    clear hO
    go_enter Tryd.func67, Tryd.ntmps67
    go_wp2
    go_ret
    exact ⟨none, 0, rfl, RK.Own.nil _ _ _ _ _, hb⟩
  · have hle := hO.le_
    have hCx : mkK.C (fun _ => True) w (some a) n xs := hO.C_ (fun _ h => h.elim) (fun _ _ => trivial)
    have hoe := RK.Own.empty mkK (fun _ => False) (w := w) (base := w.heap.size) 110 (Nat.le_refl _)
    have hCa := RK.C.below hCx ((Below.refl w.heap.size w).alloc (Nat.le_refl _) (.cells #[] 110))
    have hle1 : w.heap.size ≤ (w.alloc (.cells #[] 110)).heap.size := by simp
    have hba : Below w.heap.size w (w.alloc (.cells #[] 110)) := (Below.refl _ _).alloc (Nat.le_refl _) _
    have hln := hO.len
    have q1 := fun W => Lib.run_eql_slice_nil (P := Tryd.prog) W 84 110 (some a) n c 0 0 Tryd.underlying84
    clear hO
    go_enter Tryd.func67, Tryd.ntmps67
    have HLN := Lib.hid hln
    clear hln
    go_wp2_with (first
      | ((with_reducible refine wpList_at 7 ?_); refine RK.wpList_appK mkK _ rfl (.tmp 5) (.tmp 6) 84 rfl (fun _ => False) w.heap.size 110 _ 96 Tryd.underlying84 zinfo_mk rfl (by decide) (.slice (some ⟨w.heap.size, 0, none⟩) 0 0) 0 [] rfl hoe (fun _ h => h.elim) (some a) n c xs rfl (fun _ => True) hCa (fun _ _ h => h) n xs (Nat.zero_add _) (List.nil_append _) (by unfold maxLen; omega) (by omega) hle1 ?_
         intro A3 c3 w2 hA2 hG hx))
    have hb2 := hba.grown hG hba.size (fun q e => (RK.Own.lt hoe q e).1)
    go_ret
    exact ⟨A3, c3, rfl, hA2, hb2⟩
def IdxR (sp : List (Pt × Bool)) (xs : List (Pt × Cn)) (n : Nat) (e : Ending) : Prop :=
  ((∀ x ∈ xs, spentB sp x = false) ∧ e = .returned (.int .i64 (-1))) ∨ ∃ i : Nat, i < n ∧ (∀ x ∈ xs.take i, spentB sp x = false) ∧ (∃ x, xs[i]? = some x ∧ spentB sp x = true) ∧ e = .returned (.int .i64 i)
set_option maxHeartbeats 4000000 in
/-- The first one that is spent. -/
theorem idx_calls (w : World) (gC gM : Nat) (sp : List (Pt × Bool)) (hC : ClM gC gM sp w) (S : Nat → Prop) (A : Option Addr) (n c : Nat) (xs : List (Pt × Cn)) (hnc : n ≤ c) (hn : n ≤ 2000000000) (hX : mkK.C S w A n xs) :
    Calls Tryd.prog 80 #[.slice A n c, clV gC] w fun e w' => IdxR sp xs n e ∧ Below w.heap.size w w' := by
  have hUK := Tryd.underlying110
  have hnI : (n : Int) ≤ 2000000000 := by omega
  have hln := Lib.hid hX.len
  have h00 : Hid (∀ x ∈ xs.take 0, spentB sp x = false) := Lib.hid (fun x h => by simp at h)
  go_enter Tryd.func80, Tryd.ntmps80
  go_wp2
  go_loopw [8] (fun v8 wr => ∃ j : Nat, j ≤ n ∧ v8 = .int .i64 j ∧ Hid (∀ x ∈ xs.take j, spentB sp x = false) ∧ Below w.heap.size w wr) (fun v _ => n - (intOf v).toNat)
  case atStart => exact ⟨0, by omega, rfl, h00, Below.refl _ _⟩
  case round =>
    clear h00
    obtain ⟨j, hj, rfl, HJ, hb⟩ := hrel
    by_cases hlt : j < n
    · have hlt' : (j : Int) < (n : Int) := by omega
      have hjj : (0 : Int) ≤ (j : Int) := by omega
      obtain ⟨b, o, cs, x, hA, hx, ⟨rfl, hk⟩, hc⟩ := (RK.C.below hX hb).get j hlt
      subst hA
      have HX := Lib.hid hx
      have hr : wr.rangeAt b (o + j * 68) (mkCells x) := hc
      have i1 := info_mk hk
      have hCr := hC.below hb
      clear hc hx
      go_wp2_with (first
        | ((with_reducible refine wpList_at 15 ?_); refine wpList_load_mid rfl 110 (.tmp 14) rfl b (o + j * 68) rfl (mkCells x) _ hr hUK rfl i1 ?_))
      refine (clos_calls wr gC gM sp hCr x hk).mono ?_
      rintro e w2 ⟨rfl, hb2⟩
      have hB2 := below_then hb hb.size hb2
      obtain ⟨sb, hsb⟩ : ∃ c, spentB sp x = c := ⟨_, rfl⟩
      rw [hsb]
      have HS := Lib.hid hsb
      clear hsb hr hCr hb hb2
      cases sb with
      | true =>
        have hF : Hid (∃ x, xs[j]? = some x ∧ spentB sp x = true) := Lib.hid ⟨x, HX.out, HS.out⟩
        go_wp2
        go_ret
        exact ⟨Or.inr ⟨j, hlt, HJ.out, hF.out, rfl⟩, hB2⟩
      | false =>
        have HJ2 : Hid (∀ x ∈ xs.take (j + 1), spentB sp x = false) := Lib.hid (all_take_succ HJ.out HX.out HS.out)
        go_wp2
        go_roundw
        case rel => exact ⟨j + 1, by omega, by go_num, HJ2, hB2⟩
        case measure => simp [intOf]; omega
    · have hlt' : ¬ (j : Int) < (n : Int) := by omega
      have HA : Hid (∀ x ∈ xs, spentB sp x = false) := Lib.hid (by
        have := HJ.out
        rwa [List.take_of_length_le (by rw [hln.out]; omega)] at this)
      go_wp2
      go_ret
      exact ⟨Or.inl ⟨HA.out, rfl⟩, hb⟩
/-- What DeleteFunc leaves. -/
def keepF (sp : List (Pt × Bool)) (xs : List (Pt × Cn)) : List (Pt × Cn) := xs.filter (fun x => !spentB sp x)
theorem keep_all {sp : List (Pt × Bool)} {xs : List (Pt × Cn)} (h : ∀ x ∈ xs, spentB sp x = false) : keepF sp xs = xs := List.filter_eq_self.2 (fun x hx => by rw [h x hx]; rfl)
theorem keep_snoc (sp : List (Pt × Bool)) {xs : List (Pt × Cn)} {j : Nat} {x : Pt × Cn} (hx : xs[j]? = some x) : keepF sp (xs.take (j + 1)) = keepF sp (xs.take j) ++ (if spentB sp x then [] else [x]) := by
  unfold keepF
  rw [List.take_add_one, hx, List.filter_append, Option.toList_some]
  cases h : spentB sp x <;> simp [h]
set_option maxHeartbeats 8000000 in
theorem delf_calls (w : World) (gC gM : Nat) (sp : List (Pt × Bool)) (hC : ClM gC gM sp w) (base n c : Nat) (A : Option Addr) (xs : List (Pt × Cn)) (hn : n ≤ 2000000000) (hO : mkK.Own (fun _ => False) w base 110 (.slice A n c) n xs) (hgC : gC < base) (hgM : gM < base) :
    Calls Tryd.prog 66 #[.slice A n c, clV gC] w fun e w' => ∃ A' m c', e = .returned (.slice A' m c') ∧ mkK.Own (fun _ => False) w' base 110 (.slice A' m c') m (keepF sp xs) ∧ w.grownBy w' (Value.slice A n c).ownBlock := by
  have hUK := Tryd.underlying110
  have hle := hO.le_
  have hln := hO.len
  have hX : mkK.C (fun _ => True) w A n xs := hO.C_ (fun _ h => h.elim) (fun _ _ => trivial)
  go_enter Tryd.func66, Tryd.ntmps66
  have HLN := Lib.hid hln
  clear hln
  go_wp2_with fail
  refine (idx_calls w gC gM sp hC _ A n c xs hle.1 hn hX).mono ?_
  rintro e w1 ⟨hI, hb1⟩
  have hO1 := hO.below hb1
  have hC1 := hC.below hb1
  have hG1 : w.grownBy w1 (Value.slice A n c).ownBlock := grown_of_below hb1 _
  rcases hI with ⟨hall, rfl⟩ | ⟨i0, hi0, hall, hex, rfl⟩
  · have HK : Hid (keepF sp xs = xs) := Lib.hid (keep_all hall)
    clear hall
    go_wp2
    go_ret
    exact ⟨A, n, c, rfl, by rw [HK.out]; exact hO1, hG1⟩
  · obtain ⟨g, rest, rfl, hbg, hR, hnc, hcm, hsz⟩ := own_rowB hO1 (by omega)
    have HSZ := Lib.hid hsz
    have hok := Lib.hid hR.2
    have hgl := heap_lt hR.1
    have hcm' := hcm
    unfold maxLen at hcm'
    have hnI : (n : Int) ≤ 2000000000 := by omega
    have hG1 : w.grownBy w1 (some g) := hG1
    have hgw : w.heap.size ≤ w1.heap.size := hb1.size
    have hglw : g < w.heap.size := (RK.Own.lt hO g rfl).2
    have HK0 : Hid (keepF sp (xs.take (i0 + 1)) = xs.take i0) := Lib.hid (by
      obtain ⟨x, hx, hs⟩ := hex
      rw [keep_snoc sp hx, hs, if_pos rfl, List.append_nil, keep_all hall])
    have hi0' : ((i0 : Int) == -1) = false := beq_eq_false_iff_ne.2 (by omega)
    clear hO hO1 hX hall hex hsz hC hb1
    go_wp2
    go_loopw [5, 6] (fun v5 v6 wr => ∃ (i j : Nat) (zs : List (Pt × Cn)), i < j ∧ j ≤ n ∧ v5 = .int .i64 i ∧ v6 = .int .i64 j ∧ RowB wr g zs rest ∧ Hid (zs.length = n ∧ zs.take i = keepF sp (xs.take j) ∧ zs.drop j = xs.drop j) ∧ ClM gC gM sp wr ∧ w.grownBy wr (some g)) (fun _ v _ => n - (intOf v).toNat)
    case atStart => exact ⟨i0, i0 + 1, xs, by omega, by omega, rfl, by go_num, hR, Lib.hid ⟨HLN.out, HK0.out.symm, rfl⟩, hC1, hG1⟩
    case round =>
      clear hR hC1 hG1
      obtain ⟨i, j, zs, hij, hjn, rfl, rfl, hR, HZ, hC, hG⟩ := hrel
      have hsw := hG.size
      by_cases hlt : j < n
      · have hlt' : (j : Int) < (n : Int) := by omega
        have hjj : (0 : Int) ≤ (j : Int) := by omega
        have hii : (0 : Int) ≤ (i : Int) := by omega
        have hin : (i : Int) < (n : Int) := by omega
        have hzj : ∃ x, zs[j]? = some x ∧ xs[j]? = some x := by
          have h1 := congrArg (fun l => l[0]?) HZ.out.2.2
          simp only [List.getElem?_drop, Nat.add_zero] at h1
          have h2 := List.getElem?_eq_getElem (l := zs) (i := j) (by rw [HZ.out.1]; exact hlt)
          exact ⟨_, h2, h1 ▸ h2⟩
        obtain ⟨x, hzx, hxx⟩ := hzj
        have hk := hR.2 x (List.mem_of_getElem? hzx)
        have hr := hR.range hzx
        have i1 := info_mk hk
        have i2 := info_mkA hk
        have HX := Lib.hid hxx
        clear hzx hxx
        go_upto_region 8 with (first
          | ((with_reducible refine wpList_at 25 ?_); refine wpList_load_mid rfl 110 (.tmp 24) rfl g (j * 68) rfl (mkCells x) _ hr hUK rfl i1 ?_)
          | ((with_reducible refine wpList_atS 7 ?_); refine wpList_store_any rfl 110 (.tmp 7) (.tmp 25) rfl wr.heap.size (mkCells x).toArray rfl rfl 110 (mkCells mk0).toArray (heap_alloc_new _ _) i2 (size_mk mk0_ok hk) (mkCells_all _) ?_; intro w2 g2 ht2))
        have hb2 : Below wr.heap.size wr w2 := ht2.below ((Below.refl _ _).alloc (Nat.le_refl _) _) (Nat.le_refl _)
        have hR2 := hR.below hb2
        have hC2 := hC.below hb2
        have hG2 := hG.andThen (grown_of_below hb2 none) (fun q e => by cases e)
        clear hR hC hG hr ht2
        go_wp2_with (first
          | ((with_reducible refine wpList_at 27 ?_); refine wpList_load_row rfl 110 (.tmp 7) rfl wr.heap.size rfl 110 _ _ _ g2 hUK rfl i2 ?_))
        refine (clos_calls w2 gC gM sp hC2 x hk).mono ?_
        rintro e w3 ⟨rfl, hb3⟩
        have g3 := heap_below hb3 g2
        have hR3 := hR2.below hb3
        have hC3 := hC2.below hb3
        have hG3 := hG2.andThen (grown_of_below hb3 none) (fun q e => by cases e)
        have hKS := keep_snoc sp HX.out
        obtain ⟨sb, hsb⟩ : ∃ c, spentB sp x = c := ⟨_, rfl⟩
        rw [hsb] at hKS ⊢
        have HKS := Lib.hid hKS
        have hlt3 := heap_lt g3
        clear hsb hKS g2 hR2 hC2 hG2 hb2 hb3
        cases sb with
        | true =>
          have HZ2 : Hid (zs.length = n ∧ zs.take i = keepF sp (xs.take (j + 1)) ∧ zs.drop (j + 1) = xs.drop (j + 1)) := Lib.hid ⟨HZ.out.1, by rw [HKS.out, if_pos rfl, List.append_nil]; exact HZ.out.2.1, by
            have := congrArg (List.drop 1) HZ.out.2.2
            rwa [List.drop_drop, List.drop_drop] at this⟩
          clear g3
          go_wp2
          go_roundw
          case rel => exact ⟨i, j + 1, zs, by omega, by omega, rfl, by go_num, hR3, HZ2, hC3, hG3⟩
          case measure => simp [intOf]; omega
        | false =>
          have hil : i < zs.length := by rw [HZ.out.1]; omega
          have hiz : i * 68 + (mkCells x).toArray.size ≤ ((flatM zs ++ rest).toArray).size := by
            rw [List.size_toArray, List.size_toArray, mkCells_length hk, List.length_append, flatM_length zs hR3.2]
            omega
          have HZ2 : Hid ((zs.set i x).length = n ∧ (zs.set i x).take (i + 1) = keepF sp (xs.take (j + 1)) ∧ (zs.set i x).drop (j + 1) = xs.drop (j + 1)) := Lib.hid ⟨by rw [List.length_set]; exact HZ.out.1, by
            rw [HKS.out, if_neg (by decide), List.take_add_one, List.take_set_of_le (Nat.le_refl _), List.getElem?_set_self hil, HZ.out.2.1]; rfl, by
            have := congrArg (List.drop 1) HZ.out.2.2
            rw [List.drop_drop, List.drop_drop] at this
            rw [List.drop_set_of_lt (by omega)]
            exact this⟩
          have hgi := hR3.1
          go_wp2_with (first
            | ((with_reducible refine wpList_at 32 ?_); refine wpList_load_row rfl 110 (.tmp 7) rfl wr.heap.size rfl 110 _ _ _ g3 hUK rfl i2 ?_)
            | ((with_reducible refine wpList_atS 33 ?_); refine wpList_store_in rfl 110 (.tmp 33) (.tmp 32) rfl g (i * 68) (mkCells x).toArray rfl rfl 110 (flatM zs ++ rest).toArray hgi hiz i2 (mkCells_all _) ?_; intro w4 g4 ht4))
          have hR4 := hR3.set hil hk g4
          have hC4 : ClM gC gM sp w4 := ⟨ht4.keep hC3.1 (by omega), hC3.2.keep (ht4.block gM (by omega))⟩
          have hG4 := hG3.andThen ht4.grown (fun q e => Or.inr e)
          clear hR3 hC3 hG3 g3 g4 ht4 hgi hiz
          go_roundw
          case rel => exact ⟨i + 1, j + 1, zs.set i x, by omega, by omega, by go_num, by go_num, hR4, HZ2, hC4, hG4⟩
          case measure => simp [intOf]; omega
      · have hlt' : ¬ (j : Int) < (n : Int) := by omega
        have hjn' : j = n := by omega
        have hK : Hid (zs.take i = keepF sp xs ∧ zs.length = n) := Lib.hid ⟨by rw [HZ.out.2.1, List.take_of_length_le (by rw [HLN.out]; omega)], HZ.out.1⟩
        have hin : i < n := by omega
        clear hjn'
        have k1 := fun W => cutM_tail g n c i hin hnc W
        have k2 := fun W => cutM_head (some ⟨g, 0, none⟩) n c i (by omega) W
        have hzl : (flatM zs).length = n * 68 := by rw [flatM_length zs hR.2, hK.out.2]
        have hxl : (flatM xs).length = n * 68 := by rw [flatM_length xs hok.out, HLN.out]
        have HCS : Hid ((flatM zs ++ rest).length = c * 68) := Lib.hid (by have := HSZ.out; rw [List.length_append, hxl] at this; rw [List.length_append, hzl]; exact this)
        have HTK : Hid ((flatM zs ++ rest).take (i * 68) = flatM (keepF sp xs) ∧ (∀ y ∈ keepF sp xs, MkOk y) ∧ (keepF sp xs).length = i) := Lib.hid (by
          have hil : (zs.take i).length = i := by rw [List.length_take, hK.out.2]; omega
          have hkk : ∀ y ∈ zs.take i, MkOk y := fun y hy => hR.2 y ((List.take_sublist _ _).subset hy)
          have hl2 : (flatM (zs.take i)).length = i * 68 := by rw [flatM_length _ hkk, hil]
          rw [← hK.out.1]
          refine ⟨?_, hkk, hil⟩
          have e : flatM zs = flatM (zs.take i) ++ flatM (zs.drop i) := by rw [← flatM_append, List.take_append_drop]
          rw [e, List.append_assoc]
          exact List.take_left' hl2)
        obtain ⟨w8, vs, hcl, g8, ht8⟩ := clear_made wr g (i * 68) (n - i) (c - i) (by omega) (flatM zs ++ rest).toArray hR.1 (by rw [List.size_toArray, HCS.out]; omega)
        obtain ⟨hp1, hp2⟩ := putL_take vs (i * 68) (flatM zs ++ rest).toArray
        rw [List.toList_toArray, HTK.out.1] at hp1
        have hp2 : (putL (flatM zs ++ rest).toArray (i * 68) vs).size = c * 68 := by rw [hp2, List.size_toArray, HCS.out]
        have hO8 := rowB_own (base := base) (i := i) (c := c) g8 hbg (by omega) hcm hp2 HTK.out.2.1 HTK.out.2.2 hp1
        have hG8 := hG.andThen ht8.grown (fun q e => Or.inr e)
        clear hzl hxl hp1 hp2 g8 ht8 hR hC hG
        go_wp2
        go_ret
        exact ⟨_, i, c, rfl, hO8, hG8⟩
/-- The marks that Left lays of what is spent. -/
def marks (us : List Us) : List (Pt × Bool) := us.foldl (fun m u => putV m u.pt true) []
def leftF (d : Df) : List (Pt × Cn) := keepF (marks d.uses) d.makes
theorem marks_snoc (us : List Us) (u : Us) : marks (us ++ [u]) = putV (marks us) u.pt true := by unfold marks; rw [List.foldl_append]; rfl
theorem marks_length : ∀ (us : List Us), (marks us).length ≤ us.length := fun us => by
  have h : ∀ (us : List Us) (m : List (Pt × Bool)), (us.foldl (fun m u => putV m u.pt true) m).length ≤ m.length + us.length := by
    intro us
    induction us with
    | nil => intro m; exact Nat.le_refl _
    | cons u r ih =>
      intro m
      have h1 := ih (putV m u.pt true)
      have h2 := putV_length m u.pt true
      simp only [List.foldl_cons, List.length_cons]
      omega
  have := h us []
  simpa [marks] using this
theorem usCells_pt {w : World} {b o : Nat} {u : Us} (h : w.rangeAt b o (usCells u)) : w.rangeAt b (o + 2) (ptL u.pt.1 u.pt.2) := fun j v hv => by
  have hj := (List.getElem?_eq_some_iff.1 hv).1
  have h1 := h (j + 2) v (by
    unfold usCells
    rw [List.getElem?_cons_succ, List.getElem?_cons_succ, List.getElem?_append_left hj]
    exact hv)
  rw [show o + 2 + j = o + (j + 2) by omega]
  exact h1
theorem info_us {u : Us} (h : UsOk u) : (Tryd.prog.info? 108).map (·.size) = some (usCells u).length := by rw [usCells_length h]; kernel_rfl
theorem info_usA {u : Us} (h : UsOk u) : (Tryd.prog.info? 108).map (·.size) = some (usCells u).toArray.size := by rw [List.size_toArray]; exact info_us h
theorem us0_ok : UsOk us0 := ⟨⟨zeros32_dig, by decide, by decide⟩, cn0_ok⟩
theorem size_us {x y : Us} (h : UsOk x) (k : UsOk y) : (usCells x).toArray.size = (usCells y).toArray.size := by rw [List.size_toArray, List.size_toArray, usCells_length h, usCells_length k]
set_option maxHeartbeats 8000000 in
theorem left_calls (w : World) (S : Nat → Prop) (b0 : Nat) (Vi : Value) (A2 A3 : Option Addr) (n2 c2 n3 c3 : Nat) (fees : Int) (us : List Us) (ms : List (Pt × Cn)) (h2 : n2 ≤ c2) (h2' : c2 ≤ maxLen) (hn2 : n2 ≤ 2000000000) (hU : usK.C S w A2 n2 us) (hn3 : n3 ≤ 2000000000) (hM : mkK.Own (fun _ => False) w b0 110 (.slice A3 n3 c3) n3 ms) :
    Calls Tryd.prog 48 #[.agg #[Vi, .slice A2 n2 c2, .slice A3 n3 c3, .int .i64 fees]] w fun e w' => ∃ A' m c', e = .returned (.slice A' m c') ∧ mkK.Own (fun _ => False) w' w.heap.size 110 (.slice A' m c') m (keepF (marks us) ms) ∧ Below w.heap.size w w' := by
  have hUU := Tryd.underlying108
  have hUP := Tryd.underlying64
  have hUS := Tryd.underlying142
  have hc2' := h2'
  unfold maxLen at hc2'
  have hnI : (n2 : Int) ≤ 2000000000 := by omega
  have hln := Lib.hid hU.len
  have h1 := heap_alloc_new w (.cells #[Vi, .slice A2 n2 c2, .slice A3 n3 c3, .int .i64 fees] 86)
  have hb0 : Below w.heap.size w (w.alloc (.cells #[Vi, .slice A2 n2 c2, .slice A3 n3 c3, .int .i64 fees] 86)) := (Below.refl _ _).alloc (Nat.le_refl _) _
  go_enter Tryd.func48, Tryd.ntmps48
  go_upto_region 1 with fail
  refine wp_gen (q := fun wi => Below w.heap.size w wi ∧ wi.heap[w.heap.size]? = some (.cells #[Vi, .slice A2 n2 c2, .slice A3 n3 c3, .int .i64 fees] 86)) ⟨hb0, h1⟩ (fun w0 hw => ?_)
  clear h1 hb0
  obtain ⟨hb0, g0⟩ := hw
  have hm0 : MapV PtOk (w0.alloc (.map #[] 0)) w0.heap.size pkv Value.bool ([] : List (Pt × Bool)) := MapV.made w0
  have hbm : Below w0.heap.size w0 (w0.alloc (.map #[] 0)) := (Below.refl _ _).alloc (Nat.le_refl _) _
  have km := run_makeMap (P := Tryd.prog) 142 w0
  have hlt0 := heap_lt g0
  go_upto_region 2 with fail
  clear km
  refine wp_gen (q := fun wi => MapV PtOk wi w0.heap.size pkv Value.bool ([] : List (Pt × Bool)) ∧ wi.heap[w0.heap.size + 1]? = some (.cells #[.map (some w0.heap.size)] 142) ∧ Below w0.heap.size w0 wi) ?_ (fun w1 hw => ?_)
  · have hbc : Below (w0.alloc (.map #[] 0)).heap.size (w0.alloc (.map #[] 0)) ((w0.alloc (.map #[] 0)).alloc (.cells #[.map (some w0.heap.size)] 142)) := (Below.refl _ _).alloc (Nat.le_refl _) _
    have hx := heap_alloc_new (w0.alloc (.map #[] 0)) (.cells #[.map (some w0.heap.size)] 142)
    rw [show (w0.alloc (.map #[] 0)).heap.size = w0.heap.size + 1 by simp] at hx
    exact ⟨hm0.below hbc, hx, below_then hbm hbm.size hbc⟩
  · clear hm0 hbm
    obtain ⟨hM1, gC1, hb1⟩ := hw
    have g1 := heap_below hb1 g0
    have hU1 := RK.C.below (RK.C.below hU hb0) hb1
    have hlC := heap_lt gC1
    have d1 := blk_cell g1 (i := 1) (v := .slice A2 n2 c2) rfl
    have h00 : MapV PtOk w1 w0.heap.size pkv Value.bool (marks (us.take 0)) := hM1
    clear hM1
    go_wp2
    go_loopw [10] (fun v10 wr => ∃ j : Nat, j ≤ n2 ∧ v10 = .int .i64 j ∧ MapV PtOk wr w0.heap.size pkv Value.bool (marks (us.take j)) ∧ wr.heap[w0.heap.size + 1]? = some (.cells #[.map (some w0.heap.size)] 142) ∧ Below w0.heap.size w0 wr ∧ w0.heap.size + 1 < wr.heap.size) (fun v _ => n2 - (intOf v).toNat)
    case atStart => exact ⟨0, by omega, rfl, h00, gC1, hb1, hlC⟩
    case round =>
      clear h00 gC1 hb1 hlC g1 d1
      obtain ⟨j, hj, rfl, hMr, gC, hb, hlC⟩ := hrel
      by_cases hlt : j < n2
      · have hlt' : (j : Int) < (n2 : Int) := by omega
        have hjj : (0 : Int) ≤ (j : Int) := by omega
        obtain ⟨b, o, cs, u, hA, hx, ⟨rfl, hk⟩, hc⟩ := (RK.C.below (RK.C.below hU hb0) hb).get j hlt
        subst hA
        have hr : wr.rangeAt b (o + j * 70) (usCells u) := hc
        have i1 := info_us hk
        have i2 := info_usA hk
        have i3 := info_pt hk.1.1.1 u.pt.2
        have HX : Hid (marks (us.take (j + 1)) = putV (marks (us.take j)) u.pt true) := Lib.hid (by rw [List.take_add_one, hx]; exact marks_snoc _ _)
        clear hc hx
        go_upto_region 5 with (first
          | ((with_reducible refine wpList_at 13 ?_); refine wpList_load_mid rfl 108 (.tmp 12) rfl b (o + j * 70) rfl (usCells u) _ hr hUU rfl i1 ?_)
          | ((with_reducible refine wpList_atS 5 ?_); refine wpList_store_any rfl 108 (.tmp 5) (.tmp 13) rfl wr.heap.size (usCells u).toArray rfl rfl 108 (usCells us0).toArray (heap_alloc_new _ _) i2 (size_us us0_ok hk) (usCells_all _) ?_; intro w2 g2 ht2))
        have hb2 : Below wr.heap.size wr w2 := ht2.below ((Below.refl _ _).alloc (Nat.le_refl _) _) (Nat.le_refl _)
        have hM2 := hMr.below hb2
        have gC2 := heap_below hb2 gC
        have hB2 := below_then hb hb.size hb2
        have r2 := usCells_pt (range_block (xs := usCells u) g2)
        have c2' := blk_cell gC2 (i := 0) (v := .map (some w0.heap.size)) rfl
        have hroom : (marks (us.take j)).length < maxLen := by have := marks_length (us.take j); rw [List.length_take] at this; unfold maxLen; omega
        obtain ⟨w3, hput, hM3, ht3⟩ := MapV.put (P := Tryd.prog) keyPt hUS hM2 hroom hk.1 true
        have hput' : (Instr.mapUpdate 142 (.map (some w0.heap.size)) (.agg (ptL u.pt.1 u.pt.2).toArray) (.bool true)).run Tryd.prog w2 = .ok () w3 := hput
        rw [← HX.out] at hM3
        have gC3 := ht3.keep gC2 (by omega)
        have hB3 := ht3.below hB2 (Nat.le_refl _)
        have hs3 : w0.heap.size + 1 < w3.heap.size := by rw [ht3.size]; have := hb2.size; omega
        clear hroom hput hMr gC hb hr ht2 hb2 hM2 gC2 hB2 ht3
        go_wp2_with (first
          | ((with_reducible refine wpList_at 16 ?_); refine wpList_load_mid rfl 64 (.tmp 15) rfl wr.heap.size 2 rfl (ptL u.pt.1 u.pt.2) _ (by assumption) hUP rfl i3 ?_)
          | (refine wpList_mapUpd rfl (.tmp 14) (.tmp 16) (.const (.bool true)) 142 rfl (.map (some w0.heap.size)) (.agg (ptL u.pt.1 u.pt.2).toArray) (.bool true) rfl rfl rfl hput' ?_))
        go_roundw
        case rel => exact ⟨j + 1, by omega, by go_num, hM3, gC3, hB3, hs3⟩
        case measure => simp [intOf]; omega
      · have hlt' : ¬ (j : Int) < (n2 : Int) := by omega
        have hmk : us.take j = us := List.take_of_length_le (by rw [hln.out]; omega)
        rw [hmk] at hMr
        have hC : ClM (w0.heap.size + 1) w0.heap.size (marks us) wr := ⟨gC, hMr⟩
        have gr := heap_below hb g0
        have d2 := blk_cell gr (i := 2) (v := .slice A3 n3 c3) rfl
        have hMr2 := (hM.below hb0).below hb
        have hB := below_then hb0 hb0.size hb
        clear hmk hMr gC g0 gr hM hb
        go_wp2_with fail
        refine (clone_calls wr b0 n3 c3 A3 ms hn3 hMr2).mono ?_
        rintro e w2 ⟨A', c', rfl, hO2, hb2⟩
        have hC2 := hC.below hb2
        have hB2 := below_then hB hB.size hb2
        have hsb := hB.size
        clear hC hMr2 hB hb2 d2
        go_wp2_with fail
        refine (delf_calls w2 (w0.heap.size + 1) w0.heap.size (marks us) hC2 wr.heap.size n3 c' A' ms hn3 hO2 hlC (by omega)).mono ?_
        rintro e w3 ⟨A4, m4, c4, rfl, hO4, hG4⟩
        have hB3 := hB2.grown hG4 hB2.size (fun q e => by have := (RK.Own.lt hO2 q e).1; omega)
        go_wp2
        go_ret
        exact ⟨A4, m4, c4, rfl, hO4.base_ hsb, hB3⟩
end Go.Proofs.YtclkgflficlmiaaDoor
end

/-! ## HdP -/
section
set_option maxRecDepth 100000
set_option linter.unusedVariables false
namespace Go.Proofs.YtclkgflficlmiaaDoor
open Go Go.RowKit
/-- Two transactions, of which the second spends the first one's only output. -/
theorem two_plan (t0 t1 : TTx) (x1 : TIn) (o0 o1 : TOut) (h : Int) (hi : t1.ins = [x1]) (hx : x1.pt = (idF t0, 0)) (h0 : t0.outs = [o0]) (h1 : t1.outs = [o1]) (c0 : o0.coins ≤ topM) (c1 : outSum t1 ≤ o0.coins) (c2 : o0.coins - outSum t1 ≤ topM) (hne : idF t0 ≠ idF t1) :
    plTxs h [] 0 [t0, t1] pl0 = .ok ⟨[((idF t0, 0), mkCn o0 h 0), ((idF t1, 0), mkCn o1 h 1)], [((idF t0, 0), true)], [⟨1, 0, (idF t0, 0), mkCn o0 h 0⟩], [((idF t0, 0), mkCn o0 h 0), ((idF t1, 0), mkCn o1 h 1)], o0.coins - outSum t1⟩ := by
  have hc : (mkCn o0 h 0).coins = o0.coins := rfl
  generalize hA : mkCn o0 h 0 = A at hc
  generalize hB : mkCn o1 h 1 = B
  have e0 : mkOuts (idF t0) h 0 0 t0.outs = [((idF t0, 0), A)] := by rw [h0, ← hA]; rfl
  have e1 : mkOuts (idF t1) h 1 0 t1.outs = [((idF t1, 0), B)] := by rw [h1, ← hB]; rfl
  have hs0 : seek [((idF t0, (0 : Int)), A)] [] x1.pt = some A := by rw [hx]; simp [seek]
  have hp0 : plTx h [] 0 t0 pl0 = .ok ⟨[((idF t0, 0), A)], [], [], [((idF t0, 0), A)], 0⟩ := by
    unfold plTx
    rw [if_neg (by simp), if_pos rfl]
    unfold plEnd
    rw [e0]
    rfl
  have hi1 : plIns [((idF t0, (0 : Int)), A)] [] 1 0 t1.ins [] [] 0 = .ok ([((idF t0, 0), true)], [⟨1, 0, (idF t0, 0), A⟩], o0.coins) := by
    rw [hi, plIns, hs0]
    simp only [List.lookup_nil, Option.getD_none, Bool.false_eq_true, if_false, plIns, putV, hx, List.nil_append, Int.zero_add, hc]
    rw [if_neg (by omega)]
  have hp1 : plTx h [] 1 t1 ⟨[((idF t0, 0), A)], [], [], [((idF t0, 0), A)], 0⟩ = .ok ⟨[((idF t0, 0), A), ((idF t1, 0), B)], [((idF t0, 0), true)], [⟨1, 0, (idF t0, 0), A⟩], [((idF t0, 0), A), ((idF t1, 0), B)], o0.coins - outSum t1⟩ := by
    unfold plTx
    rw [if_neg (by simp), if_neg (by decide)]
    simp only [hi1]
    rw [if_neg (by omega), if_neg (by omega)]
    unfold plEnd
    simp only [e1]
    have hb : ((idF t0, (0 : Int)) == (idF t1, (0 : Int))) = false := beq_eq_false_iff_ne.2 (fun e => hne (Prod.mk.inj e).1)
    simp [putAll, putV, hb]
  rw [plTxs, hp0]
  show plTxs h [] 1 [t1] _ = _
  rw [plTxs, hp1]
  rfl
def pays0 : List TPay := [([], ([(50, 0)], 0)), ([0], ([(40, 1)], 0))]
def tH0 : TTx := txB 7 0 ([], ([(50, 0)], 0)) []
def tH1 : TTx := txB 7 1 ([0], ([(40, 1)], 0)) (ptsB tH0)
theorem bld_head : bldT 7 0 pays0 [] = ([tH0, tH1], ptsB tH0 ++ ptsB tH1) := rfl
theorem ids_head : idF tH0 ≠ idF tH1 := by
  have h : (idF tH0).headD 0 ≠ (idF tH1).headD 0 := by decide +kernel
  exact fun e => h (by rw [e])
theorem pts_head : ptsB tH0 = [(idF tH0, 0)] := rfl
theorem ins_head : tH1.ins = [inB (idF tH0, 0)] := by
  show insB (ptsB tH0) [0] = _
  rw [pts_head]
  rfl
theorem small_tH0 : SmallT tH0 := small_txB _ _ _ _ (by decide) (by decide)
theorem small_tH1 : SmallT tH1 := small_txB _ _ _ _ (by decide) (by decide)
theorem bounds_of {t : TTx} (h : SmallT t) (h1 : 0 < t.ins.length) (h2 : 0 < t.outs.length) : Bounds t := ⟨h1, h2, by have := h.il; omega, by have := h.ol; omega, fun x hx => ⟨by have := (h.ins x hx).wl; omega, by have := (h.ins x hx).sc; omega, fun s hs => by have := (h.ins x hx).wit s hs; omega⟩, fun o ho => by have := h.outs o ho; omega⟩
theorem txB_ok {s : Int} (h0 : 0 ≤ s) (h1 : s ≤ 4294967295) (i : Nat) (p : TPay) (all : List Pt) (ha : ∀ q ∈ all, PtOk q) : (txB s i p all).Ok := by
  have hl0 := Int.emod_nonneg p.2.2 (show (256 : Int) ≠ 0 by decide)
  have hl1 := Int.emod_lt_of_pos p.2.2 (show (0 : Int) < 256 by decide)
  refine ⟨by show (-2147483648 : Int) ≤ 1; omega, by show (1 : Int) ≤ 2147483647; omega, by show 0 ≤ p.2.2 % 256; omega, by show p.2.2 % 256 ≤ 4294967295; omega, fun x hx => ?_, fun x hx => ?_⟩
  · have hx : x ∈ (if i = 0 then [firstB s] else insB all p.1) := hx
    split at hx
    · rw [List.mem_singleton.1 hx]; exact firstB_ok h0 h1
    · unfold insB at hx
      split at hx
      · cases hx
      · rename_i hne
        obtain ⟨z, _, rfl⟩ := List.mem_map.1 hx
        refine inB_ok (ha _ ?_)
        unfold pickB
        have hlt := ixB_lt (na := all.length) (by cases all; exact absurd rfl hne; simp) z
        rw [List.getD_eq_getElem?_getD, List.getElem?_eq_getElem hlt]
        exact List.getElem_mem hlt
  · have hx : x ∈ p.2.1.map ouB := hx
    obtain ⟨z, _, rfl⟩ := List.mem_map.1 hx
    exact ouB_ok z
theorem ptsB_ok (t : TTx) (h : t.outs.length ≤ 1000) : ∀ q ∈ ptsB t, PtOk q := fun q hq => by
  obtain ⟨k, hk, rfl⟩ := List.mem_map.1 hq
  have := List.mem_range.1 hk
  exact ⟨idF_dig t, by show (0 : Int) ≤ (k : Int); omega, by show (k : Int) ≤ 4294967295; omega⟩
theorem tH0_ok : tH0.Ok := txB_ok (by decide) (by decide) _ _ _ (fun q hq => by cases hq)
theorem tH1_ok : tH1.Ok := txB_ok (by decide) (by decide) _ _ _ (ptsB_ok tH0 (by decide))
theorem small_enc {t : TTx} (hok : t.Ok) (h : SmallT t) (hb : Bounds t) : encErr t = 0 := by
  have hl : ¬ 65536 < (layF t t.hasWit).length := by have := small_len hok h; unfold encF at this; omega
  unfold encErr
  rw [if_neg (by rw [checkF_of hb]; decide), if_neg hl]
theorem head_chk : chkF (bldH 7 [tH0, tH1]) [tH0, tH1] = 0 := by
  have f0 : first0 [tH0, tH1] = true := rfl
  have e0 : encErr tH0 = 0 := small_enc tH0_ok small_tH0 (bounds_of small_tH0 (by decide) (by decide))
  have e1 : encErr tH1 = 0 := small_enc tH1_ok small_tH1 (bounds_of small_tH1 (by rw [ins_head]; decide) (by decide))
  have f1 : firstF tH1 = false := by
    unfold firstF
    rw [ins_head]
    show ((inB (idF tH0, 0)).id == zeros32 && (0 : Int) == 4294967295) = false
    rw [Bool.and_eq_false_iff]
    exact Or.inr rfl
  have c0 : okC tH0 = true := rfl
  have c1 : okC tH1 = true := rfl
  have hk : chk1 0 [tH0, tH1] = 0 := by
    rw [chk1, if_neg (by rw [e0]; decide), if_neg (by simp), if_neg (by rw [c0]; decide), chk1, if_neg (by rw [e1]; decide), if_neg (by rw [f1]; simp), if_neg (by rw [c1]; decide), chk1]
  have hn : (idsF [tH0, tH1]).Nodup := by
    show [idF tH0, idF tH1].Nodup
    simp [ids_head]
  unfold chkF
  rw [if_neg (by rw [f0]; decide), if_neg (by rw [hk]; decide), if_pos hn, if_pos (by simp only [bldH])]
/-- What the example's plan turns. -/
def headD : Df := ⟨[idF tH0, idF tH1], [⟨1, 0, (idF tH0, 0), mkCn (ouB (50, 0)) 3 0⟩], [((idF tH0, 0), mkCn (ouB (50, 0)) 3 0), ((idF tH1, 0), mkCn (ouB (40, 1)) 3 1)], 10⟩
theorem head_plan : planF (bldH 7 [tH0, tH1]) [tH0, tH1] 3 0 [] = .ok headD := by
  rw [planF_ok (by decide) (by decide) head_chk, two_plan tH0 tH1 (inB (idF tH0, 0)) (ouB (50, 0)) (ouB (40, 1)) 3 ins_head rfl rfl rfl (by decide) (by decide) (by decide) ids_head]
  rfl
theorem head_left : (keepF (marks headD.uses) headD.makes).length = 1 := by
  have hb : ((idF tH1, (0 : Int)) == (idF tH0, (0 : Int))) = false := beq_eq_false_iff_ne.2 (fun e => ids_head (Prod.mk.inj e).1.symm)
  unfold headD
  generalize idF tH0 = i0 at *
  generalize idF tH1 = i1 at *
  simp [marks, keepF, putV, spentB, List.lookup, hb]
end Go.Proofs.YtclkgflficlmiaaDoor
end

/-! ## Hd19 -/
section
set_option maxRecDepth 100000
set_option linter.unusedVariables false
namespace Go.Proofs.YtclkgflficlmiaaDoor
open Go Go.RowKit
theorem zinfo_give : (Tryd.prog.info? 135).map (fun i => (i.zero, i.size, i.bytes)) = some (some (.agg #[.int .i64 0, .int .i64 0]), 2, 16) := by kernel_rfl
theorem zinfo_pay : (Tryd.prog.info? 139).map (fun i => (i.zero, i.size, i.bytes)) = some (some (.agg #[.slice none 0 0, .slice none 0 0, .int .i64 0]), 3, 56) := by kernel_rfl
theorem wpList_build2 {P : Program} {w : World} {ops : Array Oper} {rest : List Oper} {o : Oper} {a : Act} {Q : Exit → Act → World → Prop} (hgd : o.guard = none) (t e : TypeId) (parts : Array (Nat × Operand)) (ho : o.op = .buildSlice t 2 parts)
    (ht : P.underlying t = some (.slice e)) (z : Value) (s bytes : Nat) (hinfo : (P.info? e).map (fun i => (i.zero, i.size, i.bytes)) = some (some z, s, bytes)) (hs : 0 < s) (hs1 : s ≤ 1000)
    (c1 c2 : List Value) (hc1 : c1.length = s) (hc2 : c2.length = s) (hz : z.cells.size = s) (hp : parts.toList.map (fun y => (y.1, a.eval y.2)) = [(0, .agg c1.toArray), (1, .agg c2.toArray)])
    (h : wpList P ops Q rest (a.put o.dst (.slice (some ⟨w.heap.size, 0, none⟩) 2 2)) (w.alloc (.cells (c1 ++ c2).toArray e))) : wpList P ops Q (o :: rest) a w := by
  obtain ⟨i, hi, hzz, hsize, hby⟩ : ∃ i, P.info? e = some i ∧ i.zero = some z ∧ i.size = s ∧ i.bytes = bytes := by
    cases h : P.info? e with
    | none => rw [h] at hinfo; cases hinfo
    | some i => rw [h] at hinfo; simp only [Option.map_some, Option.some.injEq, Prod.mk.injEq] at hinfo; exact ⟨i, rfl, hinfo.1, hinfo.2.1, hinfo.2.2⟩
  refine wpList_buildSlice hgd t e 2 parts ho (c1 ++ c2).toArray i z ht hi hzz (by rw [hsize]; omega) (by rw [hsize]; omega) ?_ h
  rw [Array.toList_map]
  have hp' : List.map (fun x => match x with | (i, x) => (i, a.eval x)) parts.toList = [(0, .agg c1.toArray), (1, .agg c2.toArray)] := hp
  rw [hp', hsize]
  have := Great.fill_whole hs [Value.agg c1.toArray, Value.agg c2.toArray] ((Array.range (2 * s)).map (z.cells[· % z.cells.size]!)) (fun v hv => by
    simp only [List.mem_cons, List.not_mem_nil, or_false] at hv
    rcases hv with rfl | rfl <;> simp [Value.cells, hc1, hc2]) (by simp)
  simpa [Value.cells] using this
theorem give_C {w : World} {g : Nat} {x y : Int} (h : w.heap[g]? = some (.cells #[.int .i64 x, .int .i64 y] 135)) (hx : IntKind.i64.min ≤ x ∧ x ≤ IntKind.i64.max) (hy : IntKind.i64.min ≤ y ∧ y ≤ IntKind.i64.max) : giveK.C (fun _ => True) w (some ⟨g, 0, none⟩) 1 [(x, y)] :=
  C1 (d := giveK) (cs := [.int .i64 x, .int .i64 y]) h ⟨[.int .i64 x], [.int .i64 y], rfl, ⟨rfl, hx⟩, ⟨rfl, hy⟩⟩
abbrev hdRow (n : Nat) : List Value := [.slice none 0 0, .slice (some ⟨n, 0, none⟩) 1 1, .int .i64 0, .slice (some ⟨n + 1, 0, none⟩) 1 1, .slice (some ⟨n + 2, 0, none⟩) 1 1, .int .i64 0]
theorem head_pays {w : World} {n : Nat} (h0 : w.heap[n]? = some (.cells #[.int .i64 50, .int .i64 0] 135)) (h1 : w.heap[n + 1]? = some (.cells #[.int .i64 0] 3)) (h2 : w.heap[n + 2]? = some (.cells #[.int .i64 40, .int .i64 1] 135)) (h3 : w.heap[n + 1 + 1 + 1]? = some (.cells (hdRow n).toArray 139)) :
    payK.C (fun _ => True) w (some ⟨n + 1 + 1 + 1, 0, none⟩) 2 pays0 := by
  have r3 := range_block (xs := hdRow n) h3
  have c0 := give_C h0 (by decide) (by decide)
  have c2 := give_C h2 (by decide) (by decide)
  have c1 : (RK.int .i64).C (fun _ => True) w (some ⟨n + 1, 0, none⟩) 1 [0] := C1 (d := RK.int .i64) (cs := [.int .i64 0]) h1 ⟨rfl, by decide⟩
  refine ⟨rfl, fun _ => ⟨_, 0, rfl, trivial, heap_lt h3, fun i x hx => ?_⟩⟩
  match i, hx with
  | 0, hx =>
    obtain rfl : ([], ([(50, 0)], 0)) = x := by simpa [pays0] using hx
    refine ⟨[.slice none 0 0, .slice (some ⟨n, 0, none⟩) 1 1, .int .i64 0], ⟨[.slice none 0 0], _, rfl, ⟨none, 0, 0, rfl, Nat.le_refl _, by decide, RK.C.nil _ _ _ _⟩, [.slice (some ⟨n, 0, none⟩) 1 1], _, rfl, ⟨_, 1, 1, rfl, Nat.le_refl _, by decide, c0⟩, rfl, by decide⟩, fun j v hv => ?_⟩
    refine r3 (0 * 3 + j) v ?_ |> fun h => by simpa using h
    rw [Nat.zero_mul, Nat.zero_add]
    match j, hv with
    | 0, hv => exact hv
    | 1, hv => exact hv
    | 2, hv => exact hv
    | _ + 3, hv => simp at hv
  | 1, hx =>
    obtain rfl : ([0], ([(40, 1)], 0)) = x := by simpa [pays0] using hx
    refine ⟨[.slice (some ⟨n + 1, 0, none⟩) 1 1, .slice (some ⟨n + 2, 0, none⟩) 1 1, .int .i64 0], ⟨[.slice (some ⟨n + 1, 0, none⟩) 1 1], _, rfl, ⟨_, 1, 1, rfl, Nat.le_refl _, by decide, c1⟩, [.slice (some ⟨n + 2, 0, none⟩) 1 1], _, rfl, ⟨_, 1, 1, rfl, Nat.le_refl _, by decide, c2⟩, rfl, by decide⟩, fun j v hv => ?_⟩
    have hsz : payK.sz = 3 := rfl
    rw [hsz, Nat.zero_add, Nat.one_mul]
    have h := r3 (3 + j) v (by
      match j, hv with
      | 0, hv => exact hv
      | 1, hv => exact hv
      | 2, hv => exact hv
      | _ + 3, hv => simp at hv)
    rwa [Nat.zero_add] at h
  | _ + 2, hx => simp [pays0] at hx
theorem usCells_height {u : Us} (h : UsOk u) : (usCells u)[68]? = some (.int .i64 u.coin.height) ∧ (usCells u)[69]? = some (.int .i64 (u.coin.pos : Int)) := by
  have hl := ptL_length h.1.1.1 u.pt.2
  have hs : (nums .u8 u.coin.script).length = 32 := by rw [nums_length]; exact h.2.sc.1
  constructor
  · unfold usCells
    rw [List.getElem?_cons_succ, List.getElem?_cons_succ, List.getElem?_append_right (by rw [hl]; omega), hl]
    unfold cnCells
    rw [show 66 - 33 = 32 + 1 from rfl, List.getElem?_cons_succ, List.getElem?_append_right (by rw [hs]; omega), hs]
    rfl
  · unfold usCells
    rw [List.getElem?_cons_succ, List.getElem?_cons_succ, List.getElem?_append_right (by rw [hl]; omega), hl]
    unfold cnCells
    rw [show 67 - 33 = 33 + 1 from rfl, List.getElem?_cons_succ, List.getElem?_append_right (by rw [hs]; omega), hs]
    rfl
theorem bldH_ok {s : Int} (h0 : 0 ≤ s) (h1 : s ≤ 4294967295) (ts : List TTx) : (bldH s ts).Ok := by
  have h := hdN_ok h0 h1
  have hr : Dig (rootF (idsF ts)) := rootF_dig _ _ (Nat.le_refl _) (idsF_digs ts)
  exact ⟨h.v0, h.v1, h.prev, hr, h.t0, h.t1, h.b0, h.b1, h.n0, h.n1⟩
theorem wp_genC {P : Program} {f : FuncId} {args : Array Value} {R : Ending → World → Prop} {w0 : World} {q : World → Prop} (h : q w0) (k : ∀ w, q w → Calls P f args w R) : Calls P f args w0 R := k w0 h
set_option maxHeartbeats 16000000 in
theorem head19_calls (w : World) (hT : Tabs w) (hN : Now w) : Calls Tryd.prog 41 #[] w fun e w' => e = .returned (.bool true) ∧ Below w.heap.size w w' := by
  have hUB := Tryd.underlying49
  have hUD := Tryd.underlying86
  go_enter Tryd.func41, Tryd.ntmps41
  go_wp2_with (first
    | ((with_reducible refine wpList_at 7 ?_); refine wpList_build1 rfl 136 135 _ rfl Tryd.underlying136 _ 2 16 zinfo_give (by decide) (by decide) [.int .i64 50, .int .i64 0] rfl rfl rfl ?_)
    | ((with_reducible refine wpList_at 11 ?_); refine wpList_build1 rfl 136 135 _ rfl Tryd.underlying136 _ 2 16 zinfo_give (by decide) (by decide) [.int .i64 40, .int .i64 1] rfl rfl rfl ?_)
    | ((with_reducible refine wpList_at 13 ?_); refine wpList_build2 rfl 102 139 _ rfl Tryd.underlying102 _ 3 56 zinfo_pay (by decide) (by decide) [.slice none 0 0, .slice (some ⟨w.heap.size, 0, none⟩) 1 1, .int .i64 0] [.slice (some ⟨w.heap.size + 1, 0, none⟩) 1 1, .slice (some ⟨w.heap.size + 2, 0, none⟩) 1 1, .int .i64 0] rfl rfl rfl rfl ?_))
  have hx0 := heap_alloc_new w (.cells #[.int .i64 50, .int .i64 0] 135)
  refine wp_genC (q := fun wi => Below w.heap.size w wi ∧ payK.C (fun _ => True) wi (some ⟨w.heap.size + 1 + 1 + 1, 0, none⟩) 2 pays0) ?_ (fun w1 hw => ?_)
  · have b0 : Below w.heap.size w (w.alloc (.cells #[.int .i64 50, .int .i64 0] 135)) := (Below.refl _ _).alloc (Nat.le_refl _) _
    have b1 := b0.alloc (by simp) (.cells #[.int .i64 0] 3)
    have b2 := b1.alloc (by simp; omega) (.cells #[.int .i64 40, .int .i64 1] 135)
    have b3 := b2.alloc (by simp; omega) (.cells (hdRow w.heap.size).toArray 139)
    refine ⟨b3, head_pays ?_ ?_ ?_ ?_⟩
    · exact blk_alloc (blk_alloc (blk_alloc hx0 _) _) _
    · have := heap_alloc_new (w.alloc (.cells #[.int .i64 50, .int .i64 0] 135)) (.cells #[.int .i64 0] 3)
      rw [show (w.alloc (.cells #[.int .i64 50, .int .i64 0] 135)).heap.size = w.heap.size + 1 by simp] at this
      exact blk_alloc (blk_alloc this _) _
    · have := heap_alloc_new ((w.alloc (.cells #[.int .i64 50, .int .i64 0] 135)).alloc (.cells #[.int .i64 0] 3)) (.cells #[.int .i64 40, .int .i64 1] 135)
      rw [show ((w.alloc (.cells #[.int .i64 50, .int .i64 0] 135)).alloc (.cells #[.int .i64 0] 3)).heap.size = w.heap.size + 2 by simp] at this
      exact blk_alloc this _
    · have := heap_alloc_new (((w.alloc (.cells #[.int .i64 50, .int .i64 0] 135)).alloc (.cells #[.int .i64 0] 3)).alloc (.cells #[.int .i64 40, .int .i64 1] 135)) (.cells (hdRow w.heap.size).toArray 139)
      rw [show (((w.alloc (.cells #[.int .i64 50, .int .i64 0] 135)).alloc (.cells #[.int .i64 0] 3)).alloc (.cells #[.int .i64 40, .int .i64 1] 135)).heap.size = w.heap.size + 1 + 1 + 1 by simp] at this
      exact this
  clear hx0
  obtain ⟨hb1, hP1⟩ := hw
  have hBld := build_calls w1 (hT.below hb1) (hN.below hb1) _ (fun _ => True) _ 2 2 pays0 (Nat.le_refl _) (by decide) hP1 ⟨by decide, by decide⟩ none 0 0 [] (by decide) (RK.C.nil _ _ _ _) 7 7 (by decide) (by decide) (by decide)
  rw [bld_head] at hBld
  refine hBld.mono ?_
  rintro e w2 ⟨hb2, At, ct, Al, cl, rfl, hle, hcm, hTx, hPt⟩
  obtain ⟨hh, hhE⟩ : ∃ hh, bldH 7 [tH0, tH1] = hh := ⟨_, rfl⟩
  have hok : hh.Ok := by rw [← hhE]; exact bldH_ok (by decide) (by decide) _
  rw [show bldH 7 ([tH0, tH1], ptsB tH0 ++ ptsB tH1).fst = hh from hhE, show ([tH0, tH1], ptsB tH0 ++ ptsB tH1).fst.length = 2 from rfl]
  generalize ([tH0, tH1], ptsB tH0 ++ ptsB tH1).snd.length = nl at *
  have HHE := Lib.hid hhE
  have hiB := info_blkA hok At 2 ct
  have hbw2 := below_then hb1 hb1.size hb2
  have hT2 := hT.below hbw2
  have hN2 := hN.below hbw2
  have hle : 2 ≤ ct := hle
  have hTx : txK.C (fun b => w1.heap.size ≤ b) w2 At 2 [tH0, tH1] := hTx
  clear hPt hBld hP1 hhE hT hN hb2
  go_upto_region 2 with (first
    | ((with_reducible refine wpList_atS 1 ?_); refine wpList_store_any rfl 49 (.tmp 1) (.tmp 15) rfl w2.heap.size (blkCells hh At 2 ct).toArray rfl rfl 49 (blkCells hd0 none 0 0).toArray (heap_alloc_new _ _) hiB (by rw [List.size_toArray, List.size_toArray, blkCells_length hok, blkCells_length hd0_ok]) (blkCells_all hh At 2 ct) ?_; intro w3 gB3 ht3))
  have hb3 : Below w2.heap.size w2 w3 := ht3.below ((Below.refl _ _).alloc (Nat.le_refl _) _) (Nat.le_refl _)
  have hbw3 := below_then hbw2 hbw2.size hb3
  have hTx3 := RK.C.below hTx hb3
  have hT3 := hT2.below hb3
  have hN3 := hN2.below hb3
  have hB3 := heap_lt gB3
  clear ht3 hTx hT2 hN2
  have hba : Below w3.heap.size w3 (w3.alloc (.map #[] 0)) := (Below.refl _ _).alloc (Nat.le_refl _) _
  have gBa := blk_alloc gB3 (.map #[] 0)
  have km := run_makeMap (P := Tryd.prog) 100 w3
  have hMa : SetV (w3.alloc (.map #[] 0)) w3.heap.size [] := MapV.made w3
  have hPl := plan_calls (w3.alloc (.map #[] 0)) (hT3.below hba) (hN3.below hba) (setV w3.heap.size) 0 [] (fun w => SetV w w3.heap.size []) (set_view (fun x hx => by cases hx) (fun x hx => by cases hx)) hMa (fun b => w1.heap.size ≤ b) hh hok At 2 ct [tH0, tH1] hle hcm (by decide) (RK.C.below hTx3 hba) 3
  rw [← HHE.out, head_plan, HHE.out] at hPl
  go_upto_region 3 with (first
    | ((with_reducible refine wpList_at 18 ?_); refine wpList_load_row rfl 49 (.tmp 1) rfl w2.heap.size rfl 49 _ _ _ gB3 hUB rfl hiB ?_))
  refine hPl.mono ?_
  rintro e w5 ⟨hb5, A1, c1, A2, c2, A3, c3, rfl, -, hU, hK⟩
  have gBd : True := trivial
  clear hPl km gBd
  obtain ⟨dd, hdE⟩ : ∃ dd, headD = dd := ⟨_, rfl⟩
  have HDD := Lib.hid hdE
  have hfe : dd.fees = 10 := by rw [← hdE]; rfl
  have hul : dd.uses.length = 1 := by rw [← hdE]; rfl
  have hml : dd.makes.length = 2 := by rw [← hdE]; rfl
  have hu0 : ∃ u, dd.uses = [u] ∧ u.coin.height = 3 ∧ u.coin.pos = 0 := ⟨⟨1, 0, (idF tH0, 0), mkCn (ouB (50, 0)) 3 0⟩, by rw [← hdE]; rfl, rfl, rfl⟩
  rw [hdE] at hU hK ⊢
  rw [hfe, hul, hml]
  rw [hul] at hU
  rw [hml] at hK
  obtain ⟨u0, hus, hh3, hp0⟩ := hu0
  have hUl := RK.Own.le_ hU
  have hbw5 := below_then (below_then hbw3 hbw3.size hba) (by have := hbw3.size; simp; omega) hb5
  have hkeep : (keepF (marks dd.uses) dd.makes).length = 1 := by rw [← HDD.out]; exact head_left
  have hs5 := hb5.size
  have hsa : (w3.alloc (.map #[] 0)).heap.size = w3.heap.size + 1 := by simp
  have hsw := hbw3.size
  generalize (w3.alloc (.map #[] 0)).heap.size = n3 at *
  generalize dd.ids.length = ni at *
  obtain ⟨b, o, cs, u, hA, hx, ⟨rfl, hk⟩, hc⟩ := (RK.Own.C_ (S' := fun _ => True) hU (fun _ h => h.elim) (fun _ _ => trivial)).get 0 (by decide)
  subst hA
  obtain rfl : u0 = u := by rw [hus] at hx; simpa using hx
  have q68 := hc 68 _ (usCells_height hk).1
  have q69 := hc 69 _ (usCells_height hk).2
  rw [hh3] at q68
  rw [hp0] at q69
  clear hc hx hdE
  go_upto_region 3 with (first
    | ((with_reducible refine wpList_atS 3 ?_); refine wpList_store_any rfl 86 (.tmp 3) (.tmp 22) rfl w5.heap.size #[.slice A1 ni c1, .slice (some ⟨b, o, none⟩) 1 c2, .slice A3 2 c3, .int .i64 10] rfl rfl 86 dz (heap_alloc_new _ _) (info_d _ _ _ _) rfl (one_d _ _ _ _ _ _ _ _ _ _) ?_; intro w6 gD6 ht6))
  have hb6 : Below w5.heap.size w5 w6 := ht6.below ((Below.refl _ _).alloc (Nat.le_refl _) _) (Nat.le_refl _)
  have d1 : w6.cell? ⟨w5.heap.size, 1, none⟩ = some (.slice (some ⟨b, o, none⟩) 1 c2) := blk_cell gD6 rfl
  have d3 : w6.cell? ⟨w5.heap.size, 3, none⟩ = some (.int .i64 10) := blk_cell gD6 rfl
  have e68 : w6.cell? ⟨b, o + 35 + 33, none⟩ = some (.int .i64 3) := cell_below hb6 (by rw [show o + 35 + 33 = o + 0 * usK.sz + 68 by rw [Nat.zero_mul]]; exact q68)
  have e69 : w6.cell? ⟨b, o + 35 + 34, none⟩ = some (.int .i64 0) := cell_below hb6 (by rw [show o + 35 + 34 = o + 0 * usK.sz + 69 by rw [Nat.zero_mul]]; exact q69)
  have hLf := left_calls w6 (fun _ => True) n3 (.slice A1 ni c1) (some ⟨b, o, none⟩) A3 1 c2 2 c3 10 dd.uses dd.makes hUl.1 hUl.2 (by decide) (RK.C.below (RK.Own.C_ (S' := fun _ => True) hU (fun _ h => h.elim) (fun _ _ => trivial)) hb6) (by decide) (hK.below hb6)
  have iD := info_d (.slice A1 ni c1) (.slice (some ⟨b, o, none⟩) 1 c2) (.slice A3 2 c3) (.int .i64 10)
  clear q68 q69 hU hK
  go_wp2_with (first
    | ((with_reducible refine wpList_at 56 ?_); refine wpList_load_rowG (by rfl) 86 (.tmp 3) rfl w5.heap.size rfl 86 _ _ _ gD6 hUD rfl iD ?_))
  refine hLf.mono ?_
  rintro e w7 ⟨A', m, c', rfl, hO, hb7⟩
  obtain rfl : 1 = m := by rw [← RK.Own.len hO]; exact hkeep.symm
  have hb67 := below_then hb6 hb6.size hb7
  have hbw7 := below_then hbw5 (by omega) hb67
  clear hLf hO gD6 d1 d3 e68 e69
  go_wp2
  go_ret
  exact ⟨rfl, hbw7⟩
end Go.Proofs.YtclkgflficlmiaaDoor
end
