/- The reference's place: a text. -/
import Derived.Test.YtjlkakggmfmfiaaRefCnt07
set_option maxRecDepth 100000
set_option linter.unusedVariables false
namespace Go.Proofs.Ytjlkakggmfmfiaa
open Go Go.RowKit
theorem cut_both (A : Option Addr) (n c l h : Nat) (h1 : l ≤ h) (h2 : h ≤ c) (W : World) : (Instr.slice 36 (.slice A n c) (some (.int .i64 (l : Int))) (some (.int .i64 (h : Int))) none).run Try.prog W = .ok (.slice (cutA A c l) (h - l) (c - l)) W := by
  obtain ⟨i, hi, hs⟩ := info_u8'
  have hel : Try.prog.elem 36 = 5 := by simp [Program.elem, Try.underlying36]
  have hu : Try.prog.underlying 36 = some (.slice (Try.prog.elem 36)) := by rw [hel]; exact Try.underlying36
  rw [run_slice_lh W 36 A n c hu .i64 .i64 (l : Int) (h : Int) (Int.natCast_nonneg _) (by omega) (by omega), hel]
  simp [sizeOf, typeInfo, hi, hs, sliced, Result.andThen, cutA]
def TxtPost (w : World) (A : Option Addr) (n c : Nat) (bs : List Int) (s : PSt) (e : Ending) (w' : World) : Prop :=
  ∃ at', e = .returned (.tuple #[.string (strOfNums s.textB), .agg (plL A n c at' s.text.e).toArray]) ∧ Sim bs at' s.text ∧ Below w.heap.size w w'
theorem rd_cutA07 {w : World} {A : Option Addr} {n c : Nat} {xs : List Value} (h : Rd w A n xs) (m : Nat) (hm : m ≤ n) (hc : n ≤ c) : Rd w (cutA A c m) (n - m) (xs.drop m) := by
  unfold cutA
  exact h.drop_ m hm hc
theorem empty_str : strOfNums [] = ⟨#[]⟩ := rfl
set_option maxHeartbeats 8000000 in
theorem text_calls07 (w : World) (A : Option Addr) (n c : Nat) (bs : List Int) (hnc : n ≤ c) (hn : n ≤ 1000000) (hr : Rd w A n (nums .u8 bs)) (hby : Bytes bs) (at_ : Nat) (s : PSt) (hs : Sim bs at_ s) :
    Calls Try.prog 32 #[.agg (plL A n c at_ s.e).toArray] w (TxtPost w A n c bs s) := by
  have hU := Try.underlying82
  have hl : bs.length = n := by have := hr.1; rwa [nums_length] at this
  have HL := Lib.hid hl
  have g0 : ((w.alloc (.cells (plL A n c at_ s.e).toArray 82)).alloc (.cells (plL none 0 0 0 0).toArray 82)).heap[w.heap.size]? = some (.cells (plL A n c at_ s.e).toArray 82) := heap_alloc2_old _ _ _
  have g1 : ((w.alloc (.cells (plL A n c at_ s.e).toArray 82)).alloc (.cells (plL none 0 0 0 0).toArray 82)).heap[w.heap.size + 1]? = some (.cells (plL none 0 0 0 0).toArray 82) := heap_alloc2_new _ _ _
  have hb0 : Below w.heap.size w ((w.alloc (.cells (plL A n c at_ s.e).toArray 82)).alloc (.cells (plL none 0 0 0 0).toArray 82)) := ((Below.refl _ _).alloc (Nat.le_refl _) _).alloc (by simp) _
  clear hl
  go_enter Try.func32, Try.ntmps32
  go_upto_region 1 with fail
  refine wp_gen (q := fun wi => Below w.heap.size w wi ∧ wi.heap[w.heap.size]? = some (.cells (plL A n c at_ s.e).toArray 82) ∧ wi.heap[w.heap.size + 1]? = some (.cells (plL none 0 0 0 0).toArray 82)) ⟨hb0, g0, g1⟩ (fun w0 hw => ?_)
  clear hb0 g0 g1
  obtain ⟨hb0, g0, g1⟩ := hw
  have hr0 := hr.below hb0
  clear hr
  go_wp2_with (first | ((with_reducible refine wpList_at 8 ?_); refine wpList_load_row rfl 82 (.tmp 1) rfl w.heap.size rfl 82 _ _ _ g0 hU rfl (info_plA _ _ _ _ _) ?_))
  refine (count_calls07 w0 A n c bs hn hr0 hby at_ s hs 10000 (by decide)).mono ?_
  rintro e w1 ⟨a1, rfl, hS1, hb1⟩
  have hB1 := below_then hb0 hb0.size hb1
  have gr1 := heap_below hb1 g1
  have hr1 := hr0.below hb1
  have hlo1 : w.heap.size + 1 < w1.heap.size := heap_lt gr1
  obtain ⟨s1, hs1⟩ : ∃ s1, s.count 10000 = s1 := ⟨_, rfl⟩
  obtain ⟨k, hk⟩ : ∃ k, s.countV 10000 = k := ⟨_, rfl⟩
  have hk1 : k ≤ 10000 := by rw [← hk]; exact PSt.countV_le s 10000
  have HT : Hid (s.text = s1.take k ∧ s.textB = s1.takeB k) := Lib.hid ⟨by unfold PSt.text; rw [hs1, hk], by unfold PSt.textB; rw [hs1, hk]⟩
  rw [hs1] at hS1 ⊢
  rw [hk]
  have H1 := Lib.hid (hS1.take k)
  have hale := hS1.le
  clear g0 g1 hr0 hb1 hb0 hs1 hk
  go_upto_region 2 with (first | ((with_reducible refine wpList_atS 5 ?_); refine wpList_store_any rfl 82 (.tmp 5) (.tmp 11) rfl w1.heap.size (plL A n c a1 s1.e).toArray rfl rfl 82 (plL none 0 0 0 0).toArray (heap_alloc_new _ _) (info_plA _ _ _ _ _) rfl (pl_all _ _ _ _ _) ?_; intro w2 g2 ht2))
  have hb2 : Below w1.heap.size w1 w2 := ht2.below ((Below.refl _ _).alloc (Nat.le_refl _) _) (Nat.le_refl _)
  have gr2 := heap_below hb2 gr1
  have hr2 := hr1.below hb2
  have hB2 := below_then hB1 hB1.size hb2
  have t0 : w2.cell? ⟨w1.heap.size, 0, none⟩ = some (.slice A n c) := blk_cell g2 rfl
  have t1 : w2.cell? ⟨w1.heap.size, 1, none⟩ = some (.int .i64 a1) := blk_cell g2 rfl
  obtain ⟨se, hse⟩ : ∃ e, s1.e = e := ⟨_, rfl⟩
  rw [hse] at H1 g2 ⊢
  have t2 : w2.cell? ⟨w1.heap.size, 2, none⟩ = some (.int .i64 se) := blk_cell g2 rfl
  have f1 := blk_frozen g2 1
  have f2 := blk_frozen g2 2
  have haln : a1 ≤ n := by have := HL.out; omega
  clear gr1 hr1 hB1 hb2 ht2 hse
  by_cases he : se = 0
  · subst he
    by_cases hfit : a1 + k ≤ n
    · have hfit' : decide ((n : Int) < (a1 : Int) + (k : Int)) = false := decide_eq_false (by omega)
      obtain ⟨q1, q2, q3⟩ := H1.out.1 ⟨rfl, by rw [HL.out]; exact hfit⟩
      have HQ1 := Lib.hid q1
      have HQ2 := Lib.hid q2
      have HQ3 := Lib.hid q3
      have kc : ∀ W, (Instr.slice 36 (.slice A n c) (some (.int .i64 (a1 : Int))) (some (.int .i64 ((a1 : Int) + (k : Int)))) none).run Try.prog W = .ok (.slice (cutA A c a1) k (c - a1)) W := fun W => by
        have := cut_both A n c a1 (a1 + k) (by omega) (by omega) W
        rw [Nat.add_sub_cancel_left] at this
        rw [show (a1 : Int) + (k : Int) = ((a1 + k : Nat) : Int) by omega]
        exact this
      have hRc := (rd_cutA07 hr2 a1 haln hnc).take_ k (by omega)
      rw [nums_drop, nums_take] at hRc
      have kv := conv_rd (P := Try.prog) (src := 36) (dst := 9) (c := c - a1) Try.underlying36 Try.underlying5 Try.underlying9 hRc
      rw [← q3] at kv
      clear q1 q2 q3 hRc
      go_upto_region 8 with fail
      have ga : (w2.setCell ⟨w1.heap.size, 1, none⟩ (.int .i64 ((a1 : Int) + (k : Int)))).heap[w1.heap.size]? = some (.cells (plL A n c (a1 + k) 0).toArray 82) := blk_set g2 1 (.int .i64 ((a1 : Int) + (k : Int)))
      have hta := turned_setCell w2 w1.heap.size 1 (.int .i64 ((a1 : Int) + (k : Int)))
      have gb := hta.keep gr2 (by omega)
      have hbb := hta.below hB2 (by omega)
      refine wp_region_noPanic ?_
      refine wp_region_held_drew (S := fun w' => w'.rangeAt w1.heap.size 0 (plL A n c (a1 + k) 0)) (by kernel_rfl) (range_block ga) (fun hHeld => ?_)
      -- 0: ref.go:184 slot 45 := Op.move t6
      refine wpAnyH_take (i := 0) (oi := ⟨some 45, _, _, _, _, _⟩) (v := ?_) rfl (by kernel_rfl) (by kernel_rfl) (by kernel_rfl) (fun _ _ _ h => h) (Or.inl ⟨by rfl, ?_⟩) (by assumption) ?_
      rotate_left 1
      · intro w hSw; (try dsimp only at hSw); go_simp; try with_reducible rfl
      simp only [Act.put, List.setIfInBounds_toArray, List.set_cons_zero, List.set_cons_succ]
      -- 1: ref.go:184 slot 46 := Op.load 82 t5
      refine wpAnyH_take (i := 1) (oi := ⟨some 46, _, _, _, _, _⟩) rfl (by kernel_rfl) (by kernel_rfl) (by kernel_rfl) (fun _ _ _ h => h) (yieldsIf_load_mid (by rfl) _ _ rfl _ _ rfl ((plL A n c (a1 + k) 0)) _ (fun _ h => h) hU rfl (info_pl _ _ _ _ _)) (by assumption) ?_
      simp only [Act.put, List.setIfInBounds_toArray, List.set_cons_zero, List.set_cons_succ]
      -- 2: ref.go:184 slot 2 := Op.assign t45
      refine wpAnyH_take (i := 2) (oi := ⟨some 2, _, _, _, _, _⟩) (v := ?_) rfl (by kernel_rfl) (by kernel_rfl) (by kernel_rfl) (fun _ _ _ h => h) (Or.inl ⟨by rfl, ?_⟩) (by assumption) ?_
      rotate_left 1
      · intro w hSw; (try dsimp only at hSw); go_simp; try with_reducible rfl
      simp only [Act.put, List.setIfInBounds_toArray, List.set_cons_zero, List.set_cons_succ]
      -- 3: ref.go:184 slot none := Op.store 82 t3 t46
      refine wpAnyH_ready (rs := [3]) (by kernel_rfl) (by simp) ?_
      refine AllReadyH.cons (o := ⟨none, _, _, _, _, _⟩) rfl (fun K hK => ?_) AllReadyH.nil
      refine step_store_any (by rfl) 82 (.tmp 3) (.tmp 46) (by rfl) (w.heap.size + 1) ((plL A n c (a1 + k) 0)).toArray (by rfl) (by rfl) 82 (plL none 0 0 0 0).toArray gb (info_plA _ _ _ _ _) rfl (pl_all _ _ _ _ _) ?_
      intro w9 h9 ht9
      refine hK.out _ _ (range_block (ht9.keep ga (by omega))) (fun hHeld' => ?_)
      clear hHeld
      have hHeld := hHeld'
      clear hHeld'
      clear hK K
      try (simp only [Act.put])
      refine wpAnyH_done (by kernel_rfl) ?_ _
      refine NoPanic.normal ?_
      go_wp2_with fail
      exact bodyPost_ret (results_tmp_cell rfl _ _ (w.heap.size + 1) 82 (plL A n c (a1 + k) 0).toArray (0, 0) _ rfl h9 hU rfl (info_plA _ _ _ _ _)) rfl ⟨a1 + k, by rw [HT.out.1, HT.out.2, HQ2.out]; rfl, by rw [HT.out.1]; exact HQ1.out, ht9.below (below_then hbb hbb.size (Below.drew (Below.refl _ _))) (by omega)⟩
    · have hfit' : decide ((n : Int) < (a1 : Int) + (k : Int)) = true := decide_eq_true (by omega)
      obtain ⟨q1, q2, q3, _⟩ := H1.out.2 (fun h => hfit (by have := HL.out; omega))
      have HQ1 := Lib.hid q1
      have HQ2 := Lib.hid q2
      have HQ3 := Lib.hid q3
      clear q1 q2 q3
      go_upto_region 4 with fail
      have ga : (w2.setCell ⟨w1.heap.size, 2, none⟩ (.int .i64 8)).heap[w1.heap.size]? = some (.cells (plL A n c a1 8).toArray 82) := blk_set g2 2 (.int .i64 8)
      have hta := turned_setCell w2 w1.heap.size 2 (.int .i64 8)
      have gb := hta.keep gr2 (by omega)
      have hbb := hta.below hB2 (by omega)
      have tn : (w2.setCell ⟨w1.heap.size, 2, none⟩ (.int .i64 8)).cell? ⟨w1.heap.size, 2, none⟩ = some (.int .i64 8) := blk_cell ga rfl
      go_upto_region 5 with fail
      refine wp_region_noPanic ?_
      refine wp_region_held_drew (S := fun w' => w'.rangeAt w1.heap.size 0 (plL A n c a1 8)) (by kernel_rfl) (range_block ga) (fun hHeld => ?_)
      -- 0: ref.go:180 slot 29 := Op.load 82 t5
      refine wpAnyH_take (i := 0) (oi := ⟨some 29, _, _, _, _, _⟩) rfl (by kernel_rfl) (by kernel_rfl) (by kernel_rfl) (fun _ _ _ h => h) (yieldsIf_load_mid (by rfl) _ _ rfl _ _ rfl ((plL A n c a1 8)) _ (fun _ h => h) hU rfl (info_pl _ _ _ _ _)) (by assumption) ?_
      simp only [Act.put, List.setIfInBounds_toArray, List.set_cons_zero, List.set_cons_succ]
      -- 1: ref.go:180 slot 2 := Op.assign (const (Value.string { data := #[] }))
      refine wpAnyH_take (i := 1) (oi := ⟨some 2, _, _, _, _, _⟩) (v := ?_) rfl (by kernel_rfl) (by kernel_rfl) (by kernel_rfl) (fun _ _ _ h => h) (Or.inl ⟨by rfl, ?_⟩) (by assumption) ?_
      rotate_left 1
      · intro w hSw; (try dsimp only at hSw); go_simp; try with_reducible rfl
      simp only [Act.put, List.setIfInBounds_toArray, List.set_cons_zero, List.set_cons_succ]
      -- 2: ref.go:180 slot none := Op.store 82 t3 t29
      refine wpAnyH_ready (rs := [2]) (by kernel_rfl) (by simp) ?_
      refine AllReadyH.cons (o := ⟨none, _, _, _, _, _⟩) rfl (fun K hK => ?_) AllReadyH.nil
      refine step_store_any (by rfl) 82 (.tmp 3) (.tmp 29) (by rfl) (w.heap.size + 1) ((plL A n c a1 8)).toArray (by rfl) (by rfl) 82 (plL none 0 0 0 0).toArray gb (info_plA _ _ _ _ _) rfl (pl_all _ _ _ _ _) ?_
      intro w9 h9 ht9
      refine hK.out _ _ (range_block (ht9.keep ga (by omega))) (fun hHeld' => ?_)
      clear hHeld
      have hHeld := hHeld'
      clear hHeld'
      clear hK K
      try (simp only [Act.put])
      refine wpAnyH_done (by kernel_rfl) ?_ _
      refine NoPanic.normal ?_
      go_wp2_with fail
      exact bodyPost_ret (results_tmp_cell rfl _ _ (w.heap.size + 1) 82 (plL A n c a1 8).toArray (0, 0) _ rfl h9 hU rfl (info_plA _ _ _ _ _)) rfl ⟨a1, by rw [HT.out.1, HT.out.2, HQ2.out, HQ3.out]; rfl, by rw [HT.out.1]; exact HQ1.out, ht9.below (below_then hbb hbb.size (Below.drew (Below.refl _ _))) (by omega)⟩
  · have he' : (se == 0) = false := beq_eq_false_iff_ne.2 he
    obtain ⟨q1, q2, q3, _⟩ := H1.out.2 (fun h => he h.1)
    rw [if_neg he] at q2
    have HQ1 := Lib.hid q1
    have HQ2 := Lib.hid q2
    have HQ3 := Lib.hid q3
    have ga := g2
    have gb := gr2
    clear q1 q2 q3
    go_upto_region 5 with fail
    refine wp_region_noPanic ?_
    refine wp_region_held_drew (S := fun w' => w'.rangeAt w1.heap.size 0 (plL A n c a1 se)) (by kernel_rfl) (range_block ga) (fun hHeld => ?_)
    -- 0: ref.go:180 slot 29 := Op.load 82 t5
    refine wpAnyH_take (i := 0) (oi := ⟨some 29, _, _, _, _, _⟩) rfl (by kernel_rfl) (by kernel_rfl) (by kernel_rfl) (fun _ _ _ h => h) (yieldsIf_load_mid (by rfl) _ _ rfl _ _ rfl ((plL A n c a1 se)) _ (fun _ h => h) hU rfl (info_pl _ _ _ _ _)) (by assumption) ?_
    simp only [Act.put, List.setIfInBounds_toArray, List.set_cons_zero, List.set_cons_succ]
    -- 1: ref.go:180 slot 2 := Op.assign (const (Value.string { data := #[] }))
    refine wpAnyH_take (i := 1) (oi := ⟨some 2, _, _, _, _, _⟩) (v := ?_) rfl (by kernel_rfl) (by kernel_rfl) (by kernel_rfl) (fun _ _ _ h => h) (Or.inl ⟨by rfl, ?_⟩) (by assumption) ?_
    rotate_left 1
    · intro w hSw; (try dsimp only at hSw); go_simp; try with_reducible rfl
    simp only [Act.put, List.setIfInBounds_toArray, List.set_cons_zero, List.set_cons_succ]
    -- 2: ref.go:180 slot none := Op.store 82 t3 t29
    refine wpAnyH_ready (rs := [2]) (by kernel_rfl) (by simp) ?_
    refine AllReadyH.cons (o := ⟨none, _, _, _, _, _⟩) rfl (fun K hK => ?_) AllReadyH.nil
    refine step_store_any (by rfl) 82 (.tmp 3) (.tmp 29) (by rfl) (w.heap.size + 1) ((plL A n c a1 se)).toArray (by rfl) (by rfl) 82 (plL none 0 0 0 0).toArray gb (info_plA _ _ _ _ _) rfl (pl_all _ _ _ _ _) ?_
    intro w9 h9 ht9
    refine hK.out _ _ (range_block (ht9.keep ga (by omega))) (fun hHeld' => ?_)
    clear hHeld
    have hHeld := hHeld'
    clear hHeld'
    clear hK K
    try (simp only [Act.put])
    refine wpAnyH_done (by kernel_rfl) ?_ _
    refine NoPanic.normal ?_
    go_wp2_with fail
    exact bodyPost_ret (results_tmp_cell rfl _ _ (w.heap.size + 1) 82 (plL A n c a1 se).toArray (0, 0) _ rfl h9 hU rfl (info_plA _ _ _ _ _)) rfl ⟨a1, by rw [HT.out.1, HT.out.2, HQ2.out, HQ3.out]; rfl, by rw [HT.out.1]; exact HQ1.out, ht9.below (below_then hB2 hB2.size (Below.drew (Below.refl _ _))) (by omega)⟩
end Go.Proofs.Ytjlkakggmfmfiaa
