/- TxReads: whatever bytes, the law's call returns true and changes nothing: both readers find the same transaction, or the same fault, and it is written again just so. -/
import Derived.Test.YtjlkakggmfmfiaaRefDM
import Derived.Test.YtjlkakggmfmfiaaTxWrites
set_option maxRecDepth 100000
set_option linter.unusedVariables false
namespace Go.Proofs.Ytjlkakggmfmfiaa
open Go Go.RowKit
theorem Turned.refl (w : World) (g : Nat) : Turned w g w := ⟨rfl, rfl, rfl, rfl, fun _ _ => rfl⟩
theorem Turned.trans {w w1 w2 : World} {g : Nat} (h : Turned w g w1) (k : Turned w1 g w2) : Turned w g w2 :=
  ⟨k.os.trans h.os, k.tape.trans h.tape, k.output.trans h.output, k.size.trans h.size, fun q hq => (k.block q hq).trans (h.block q hq)⟩
theorem own_home {w : World} {base n c : Nat} {e : TypeId} {A : Option Addr} {k : IntKind} {xs : List Int} (h : w.ownsRow base e 1 (.slice A n c) n (nums k xs)) (hb : base < w.heap.size) : ∃ g, base ≤ g ∧ g < w.heap.size ∧ (0 < n → A = some ⟨g, 0, none⟩ ∧ ∃ cur, w.heap[g]? = some (.cells cur e) ∧ ∀ i, i < n → ∃ x, cur[i]? = some (.int k x)) := by
  rcases h.2 with ⟨hv, h0⟩ | ⟨g, cap, cur, hv, hbg, hg, h1, h2, h3, h4⟩
  · exact ⟨base, Nat.le_refl _, hb, fun hn => by omega⟩
  · refine ⟨g, hbg, heap_lt hg, fun hn => ?_⟩
    injection hv with e1 e2 e3
    refine ⟨e1, cur, hg, fun i hi => ?_⟩
    have hl := h.1
    rw [nums_length, Nat.mul_one] at hl
    have hx := nums_get k xs i (by omega)
    rw [← h4, Nat.mul_one] at hx
    rw [List.getElem?_take_of_lt hi] at hx
    exact ⟨_, by rw [← Array.getElem?_toList]; exact hx⟩
theorem ints_set {cur : Array Value} {n : Nat} {k : IntKind} (h : ∀ i, i < n → ∃ x, cur[i]? = some (.int k x)) (j : Nat) (y : Int) : ∀ i, i < n → ∃ x, (cur.setIfInBounds j (.int k y))[i]? = some (.int k x) := by
  intro i hi
  obtain ⟨x, hx⟩ := h i hi
  by_cases hij : j = i
  · subst hij
    refine ⟨y, ?_⟩
    have := (Array.getElem?_eq_some_iff.1 hx).1
    simp [this]
  · exact ⟨x, by rw [Array.getElem?_setIfInBounds_ne hij]; exact hx⟩
theorem own_some7 {w : World} {base n c q : Nat} {e : TypeId} {A : Option Addr} {k : IntKind} {xs : List Int} (h : w.ownsRow base e 1 (.slice A n c) n (nums k xs)) (hx : (Value.slice A n c).ownBlock = some q) : ∃ g, A = some ⟨g, 0, none⟩ ∧ base ≤ g ∧ g < w.heap.size ∧ ∃ cur, w.heap[g]? = some (.cells cur e) ∧ ∀ i, i < n → ∃ x, cur[i]? = some (.int k x) := by
  rcases h.2 with ⟨hv, h0⟩ | ⟨g, cap, cur, hv, hbg, hg, h1, h2, h3, h4⟩
  · rw [hv] at hx
    cases hx
  · injection hv with e1 e2 e3
    refine ⟨g, e1, hbg, heap_lt hg, cur, hg, fun i hi => ?_⟩
    have hl := h.1
    rw [nums_length, Nat.mul_one] at hl
    have hx := nums_get k xs i (by omega)
    rw [← h4, Nat.mul_one] at hx
    rw [List.getElem?_take_of_lt hi] at hx
    exact ⟨_, by rw [← Array.getElem?_toList]; exact hx⟩
/-- The transaction that both readers hand back: an empty one where there is a fault. -/
def tR (bs : List Int) : TTx := if decE bs = 0 then decT bs else ⟨0, [], [], 0⟩
theorem tR_small (bs : List Int) (hb : Bytes bs) : (tR bs).ins.length ≤ 1024 ∧ (tR bs).outs.length ≤ 1024 := by
  unfold tR
  by_cases he : decE bs = 0
  · rw [if_pos he]
    have h := (dec_read hb he).1
    exact ⟨h.i1, h.o1⟩
  · rw [if_neg he]
    exact ⟨Nat.zero_le _, Nat.zero_le _⟩
theorem dec_K {w w' : World} {bs : List Int} {e : Ending} (h : DecPost w bs e w') : ∃ cs, e = .returned (.tuple #[.agg cs.toArray, .int .i64 ((if decE bs = 0 then decN bs else 0 : Nat) : Int), .int .i64 (decE bs)]) ∧ txK.K (fun b => w.heap.size ≤ b) w' (tR bs) cs ∧ Below w.heap.size w w' := by
  obtain ⟨cs, h1, h2, h3, h4⟩ := h
  refine ⟨cs, h1, ?_, h4⟩
  unfold tR
  by_cases he : decE bs = 0
  · rw [if_pos he]
    exact h2 he
  · rw [if_neg he, h3 he]
    exact ⟨none, 0, 0, none, 0, 0, rfl, by decide, by decide, Nat.le_refl _, by decide, Nat.le_refl _, by decide, RK.C.nil _ _ _ _, RK.C.nil _ _ _ _⟩
set_option maxHeartbeats 8000000 in
theorem txReads_walk (w : World) (A : Option Addr) (n c : Nat) (bs : List Int) (hnc : n ≤ c) (hcm : c ≤ maxLen) (hC : (RK.int .u8).C (· < w.heap.size) w A n bs) :
    Calls Try.prog 6 #[.slice A n c] w fun e w' => e = .returned (.bool true) ∧ Below w.heap.size w w' := by
  have hU := Try.underlying35
  have hU7 := Try.underlying46
  have hbs := hC.bytes
  have hR := hC.rd_int
  have hcm' := hcm
  unfold maxLen at hcm'
  have hnI : (n : Int) ≤ 9223372036854775807 := by omega
  have HL : Hid (bs.length = n) := Lib.hid hC.len
  go_enter Try.func6, Try.ntmps6
  go_wp2_with fail
  refine (head07_calls w).mono ?_
  rintro e w1 ⟨rfl, hb1⟩
  have hR1 := hR.below hb1
  clear hC
  by_cases e1 : 70000 < n
  · have e1' : (70000 : Int) < (n : Int) := by omega
    go_wp2
    go_ret
    exact ⟨rfl, hb1⟩
  · have e1' : ¬ (70000 : Int) < (n : Int) := by omega
    have hoe := own_empty (w := w1) (base := w1.heap.size) 5 1 (Nat.le_refl _)
    have hRa := hR1.alloc (.cells #[] 5)
    have hle1 : w1.heap.size ≤ (w1.alloc (.cells #[] 5)).heap.size := by simp
    go_upto_region 6 with (first
      | ((with_reducible refine wpList_at 20 ?_); refine wpList_appN rfl (.tmp 18) (.tmp 19) 36 rfl w1.heap.size 5 _ 1 Try.underlying36 infoU8 rfl (.slice (some ⟨w1.heap.size, 0, none⟩) 0 0) 0 [] rfl hoe A n c (nums .u8 bs) rfl hRa (nums_one _ _) n (nums .u8 bs) (Nat.zero_add _) (List.nil_append _) (by unfold maxLen; omega) (by omega) hle1 ?_
         intro A3 c3 w2 hO hG hx))
    have hB2 : Below w.heap.size w w2 := (hb1.alloc hb1.size _).grown hG (by simp; have := hb1.size; omega) (fun q e => by have := own_base hoe q e; have := hb1.size; omega)
    have hs2 : w1.heap.size < w2.heap.size := by have := hG.size; simp at this; omega
    have hsw := hb1.size
    have hleO := own_le hO
    have hRo := Rd.of_own hO
    have hR2 := hR.below hB2
    obtain ⟨g, rfl, hg1, hg2, hgm⟩ : ∃ g, A3 = some ⟨g, 0, none⟩ ∧ w1.heap.size ≤ g ∧ g < w2.heap.size ∧ ∃ cur, w2.heap[g]? = some (.cells cur 5) ∧ ∀ i, i < n → ∃ x, cur[i]? = some (.int .u8 x) := by
      rcases hx with hx | hx
      · exact own_some7 hO (hx.trans rfl)
      · exact own_some7 hO hx
    clear hoe hRa hG hx hR1 hb1 hle1
    go_wp2_with fail
    refine (dec_calls w2 g 0 n c3 bs hleO.1 hleO.2 hRo hg2 hbs).mono ?_
    intro e w3 hD1
    obtain ⟨cs1, rfl, hK1, hb3⟩ := dec_K hD1
    clear hD1
    have hB3 := below_then hB2 hB2.size hb3
    have hR3 := hR2.below hb3
    have hgm3 : ∃ cur, w3.heap[g]? = some (.cells cur 5) ∧ ∀ i, i < n → ∃ x, cur[i]? = some (.int .u8 x) := by
      obtain ⟨cur, q2, q3⟩ := hgm
      exact ⟨cur, heap_below hb3 q2, q3⟩
    have hs3 := hb3.size
    obtain ⟨B1, d1, B2, d2, hcs1, _⟩ := txK_form hK1
    subst hcs1
    clear hgm hB2 hR2 hRo hb3 hO
    obtain ⟨NN, hNN⟩ : ∃ m : Nat, (if decE bs = 0 then decN bs else 0) = m := ⟨_, rfl⟩
    rw [hNN]
    have HNN := Lib.hid hNN
    clear hNN
    go_upto_region 7 with fail
    have hba : Below w3.heap.size w3 (w3.alloc (.cells ([.int .i32 (tR bs).ver, .slice B1 (tR bs).ins.length d1, .slice B2 (tR bs).outs.length d2, .int .u32 (tR bs).lock]).toArray 35)) := (Below.refl _ _).alloc (Nat.le_refl _) _
    have hgm3' : ∃ cur, (w3.alloc (.cells ([.int .i32 (tR bs).ver, .slice B1 (tR bs).ins.length d1, .slice B2 (tR bs).outs.length d2, .int .u32 (tR bs).lock]).toArray 35)).heap[g]? = some (.cells cur 5) ∧ ∀ i, i < n → ∃ x, cur[i]? = some (.int .u8 x) := by
      obtain ⟨cur, q2, q3⟩ := hgm3
      exact ⟨cur, heap_below hba q2, q3⟩
    have hsz4 : w3.heap.size < (w3.alloc (.cells ([.int .i32 (tR bs).ver, .slice B1 (tR bs).ins.length d1, .slice B2 (tR bs).outs.length d2, .int .u32 (tR bs).lock]).toArray 35)).heap.size := by simp
    refine wp_gen (q := fun wi => wi.heap[w3.heap.size]? = some (.cells ([.int .i32 (tR bs).ver, .slice B1 (tR bs).ins.length d1, .slice B2 (tR bs).outs.length d2, .int .u32 (tR bs).lock]).toArray 35) ∧ txK.K (fun b => w2.heap.size ≤ b ∧ b < w3.heap.size) wi (tR bs) [.int .i32 (tR bs).ver, .slice B1 (tR bs).ins.length d1, .slice B2 (tR bs).outs.length d2, .int .u32 (tR bs).lock] ∧ Below w.heap.size w wi ∧ w3.heap.size < wi.heap.size ∧ (∃ cur, wi.heap[g]? = some (.cells cur 5) ∧ ∀ i, i < n → ∃ x, cur[i]? = some (.int .u8 x))) ⟨heap_alloc_new _ _, RK.K_below (txK_lt hK1) hba, below_then hB3 hB3.size hba, hsz4, hgm3'⟩ (fun w4 hw => ?_)
    clear hba hgm3 hgm3' hsz4 hK1 hR3 hB3
    obtain ⟨hx4, hK4, hB4, hs4, hgm4⟩ := hw
    have hR4 := hR.below hB4
    go_wp2_with fail
    refine (rdec_calls w4 A n c bs hnc hcm hR4 hbs).mono ?_
    intro e w5 hD2
    obtain ⟨cs2, rfl, hK2, hb5⟩ := dec_K hD2
    clear hD2
    have hB5 := below_then hB4 hB4.size hb5
    have hx5 := heap_below hb5 hx4
    have hK5 := RK.K_below hK4 hb5
    obtain ⟨C1, k1, C2, k2, hcs2, _⟩ := txK_form hK2
    subst hcs2
    rw [HNN.out]
    obtain ⟨EE, hEE⟩ : ∃ m : Int, decE bs = m := ⟨_, rfl⟩
    rw [hEE]
    have HEE := Lib.hid hEE
    obtain ⟨tt, htt⟩ : ∃ t : TTx, tR bs = t := ⟨_, rfl⟩
    rw [htt] at hx5 hK5 hK2 ⊢
    have HTT := Lib.hid htt
    have hgm5 : ∃ cur, w5.heap[g]? = some (.cells cur 5) ∧ ∀ i, i < n → ∃ x, cur[i]? = some (.int .u8 x) := by
      obtain ⟨cur, q2, q3⟩ := hgm4
      exact ⟨cur, heap_below hb5 q2, q3⟩
    have hs5 := hb5.size
    clear hEE htt hx4 hK4 hB4 hgm4 hR4 hb5
    go_upto_region 8 with fail
    have hba : Below w5.heap.size w5 (w5.alloc (.cells ([.int .i32 tt.ver, .slice C1 tt.ins.length k1, .slice C2 tt.outs.length k2, .int .u32 tt.lock]).toArray 46)) := (Below.refl _ _).alloc (Nat.le_refl _) _
    have hgm6 : ∃ cur, (w5.alloc (.cells ([.int .i32 tt.ver, .slice C1 tt.ins.length k1, .slice C2 tt.outs.length k2, .int .u32 tt.lock]).toArray 46)).heap[g]? = some (.cells cur 5) ∧ ∀ i, i < n → ∃ x, cur[i]? = some (.int .u8 x) := by
      obtain ⟨cur, q2, q3⟩ := hgm5
      exact ⟨cur, heap_below hba q2, q3⟩
    have hsz6 : w5.heap.size < (w5.alloc (.cells ([.int .i32 tt.ver, .slice C1 tt.ins.length k1, .slice C2 tt.outs.length k2, .int .u32 tt.lock]).toArray 46)).heap.size := by simp
    refine wp_gen (q := fun wi => wi.heap[w5.heap.size]? = some (.cells ([.int .i32 tt.ver, .slice C1 tt.ins.length k1, .slice C2 tt.outs.length k2, .int .u32 tt.lock]).toArray 46) ∧ txK.K (fun b => w4.heap.size ≤ b ∧ b < w5.heap.size) wi tt [.int .i32 tt.ver, .slice C1 tt.ins.length k1, .slice C2 tt.outs.length k2, .int .u32 tt.lock] ∧ wi.heap[w3.heap.size]? = some (.cells ([.int .i32 tt.ver, .slice B1 tt.ins.length d1, .slice B2 tt.outs.length d2, .int .u32 tt.lock]).toArray 35) ∧ txK.K (fun b => w2.heap.size ≤ b ∧ b < w3.heap.size) wi tt [.int .i32 tt.ver, .slice B1 tt.ins.length d1, .slice B2 tt.outs.length d2, .int .u32 tt.lock] ∧ Below w.heap.size w wi ∧ w5.heap.size < wi.heap.size ∧ (∃ cur, wi.heap[g]? = some (.cells cur 5) ∧ ∀ i, i < n → ∃ x, cur[i]? = some (.int .u8 x))) ⟨heap_alloc_new _ _, RK.K_below (txK_lt hK2) hba, heap_below hba hx5, RK.K_below hK5 hba, below_then hB5 hB5.size hba, hsz6, hgm6⟩ (fun w6 hw => ?_)
    clear hba hgm5 hgm6 hsz6 hK2 hx5 hK5 hB5
    obtain ⟨hy6, hJ6, hx6, hK6, hB6, hs6, hgm6⟩ := hw
    go_wp2
    go_loopw [35] (fun v35 wq => ∃ (j : Nat), j ≤ n ∧ v35 = .int .i64 j ∧ Turned w6 g wq ∧ (∃ cur, wq.heap[g]? = some (.cells cur 5) ∧ ∀ i, i < n → ∃ x, cur[i]? = some (.int .u8 x))) (fun v _ => n - (intOf v).toNat)
    case atStart => exact ⟨0, by omega, rfl, Turned.refl _ _, hgm6⟩
    case round =>
      clear hgm6
      obtain ⟨j, hj, rfl, htq, cur, hgc, hcur⟩ := hrel
      by_cases hlt : j < n
      · have hlt' : (j : Int) < (n : Int) := by omega
        have hjj : (0 : Int) ≤ (j : Int) := by omega
        obtain ⟨x0, hx0⟩ := hcur j hlt
        have hc0 := blk_cell hgc hx0
        have hf0 := blk_frozen hgc j
        go_wp2
        go_roundw
        case rel => exact ⟨j + 1, by omega, by go_num, htq.trans (turned_setCell wr g j _), _, blk_set hgc j _, ints_set hcur j _⟩
        case measure => simp [intOf]; omega
      · have hlt' : ¬ (j : Int) < (n : Int) := by omega
        have hgs : g < w3.heap.size := by omega
        have hx6q := htq.keep hx6 (by omega)
        have hy6q := htq.keep hy6 (by omega)
        have hBq := htq.below hB6 (by omega)
        have hKq : txK.K (fun b => w2.heap.size ≤ b ∧ b < w3.heap.size) wr tt [.int .i32 tt.ver, .slice B1 tt.ins.length d1, .slice B2 tt.outs.length d2, .int .u32 tt.lock] := txK.move (fun q hq _ => htq.block q (by omega)) hK6
        have hJq : txK.K (fun b => w4.heap.size ≤ b ∧ b < w5.heap.size) wr tt [.int .i32 tt.ver, .slice C1 tt.ins.length k1, .slice C2 tt.outs.length k2, .int .u32 tt.lock] := txK.move (fun q hq _ => htq.block q (by omega)) hJ6
        have hi4 := info_tx4 (.int .i32 tt.ver) (.slice B1 tt.ins.length d1) (.slice B2 tt.outs.length d2) (.int .u32 tt.lock)
        have hi47 := info_tx407 (.int .i32 tt.ver) (.slice C1 tt.ins.length k1) (.slice C2 tt.outs.length k2) (.int .u32 tt.lock)
        have hbd := tR_small bs hbs
        rw [HTT.out] at hbd
        have hRq := hR.below hBq
        have e13 : (EE != EE) = false := by simp
        have e13' : ((NN : Int) != (NN : Int)) = false := by simp
        clear htq hgc hcur hx6 hy6 hK6 hJ6 hB6 hR
        go_upto_region 13 with fail
        have r1 : wr.drew.rangeAt w3.heap.size 0 [.int .i32 tt.ver, .slice B1 tt.ins.length d1, .slice B2 tt.outs.length d2, .int .u32 tt.lock] := range_block (xs := [.int .i32 tt.ver, .slice B1 tt.ins.length d1, .slice B2 tt.outs.length d2, .int .u32 tt.lock]) hx6q
        have r2 : wr.drew.rangeAt w5.heap.size 0 [.int .i32 tt.ver, .slice C1 tt.ins.length k1, .slice C2 tt.outs.length k2, .int .u32 tt.lock] := range_block (xs := [.int .i32 tt.ver, .slice C1 tt.ins.length k1, .slice C2 tt.outs.length k2, .int .u32 tt.lock]) hy6q
        refine wp_region_noPanic ?_
        refine wp_region_held_drew (S := fun w' => w'.rangeAt w3.heap.size 0 ([.int .i32 tt.ver, .slice B1 tt.ins.length d1, .slice B2 tt.outs.length d2, .int .u32 tt.lock]) ∧ w'.rangeAt w5.heap.size 0 ([.int .i32 tt.ver, .slice C1 tt.ins.length k1, .slice C2 tt.outs.length k2, .int .u32 tt.lock]) ∧ Below wr.heap.size wr w') (by kernel_rfl) ⟨r1, r2, Below.drew (Below.refl _ _)⟩ (fun hHeld => ?_)
        -- 0: law.go:93 slot 45 := Op.move t6
        refine wpAnyH_take (i := 0) (oi := ⟨some 45, _, _, _, _, _⟩) (v := ?_) rfl (by kernel_rfl) (by kernel_rfl) (by kernel_rfl) (fun _ _ _ h => h) (Or.inl ⟨by rfl, ?_⟩) (by assumption) ?_
        rotate_left 1
        · intro w hSw; (try dsimp only at hSw); go_simp; try with_reducible rfl
        simp only [Act.put, List.setIfInBounds_toArray, List.set_cons_zero, List.set_cons_succ]
        -- 1: law.go:93 slot 46 := Op.move t9
        refine wpAnyH_take (i := 1) (oi := ⟨some 46, _, _, _, _, _⟩) (v := ?_) rfl (by kernel_rfl) (by kernel_rfl) (by kernel_rfl) (fun _ _ _ h => h) (Or.inl ⟨by rfl, ?_⟩) (by assumption) ?_
        rotate_left 1
        · intro w hSw; (try dsimp only at hSw); go_simp; try with_reducible rfl
        simp only [Act.put, List.setIfInBounds_toArray, List.set_cons_zero, List.set_cons_succ]
        -- 2: law.go:93 slot 47 := Op.binOp BinOp.neq 3 t45 t46 3
        refine wpAnyH_take (i := 2) (oi := ⟨some 47, _, _, _, _, _⟩) (v := ?_) rfl (by kernel_rfl) (by kernel_rfl) (by kernel_rfl) (fun _ _ _ h => h) (Or.inl ⟨by rfl, ?_⟩) (by assumption) ?_
        rotate_left 1
        · intro w hSw; (try dsimp only at hSw); go_simp; try with_reducible rfl
        simp only [Act.put, List.setIfInBounds_toArray, List.set_cons_zero, List.set_cons_succ]
        -- 3: law.go:93 slot 48 := Op.move t47
        refine wpAnyH_take (i := 3) (oi := ⟨some 48, _, _, _, _, _⟩) (v := ?_) rfl (by kernel_rfl) (by kernel_rfl) (by kernel_rfl) (fun _ _ _ h => h) (Or.inl ⟨by rfl, ?_⟩) (by assumption) ?_
        rotate_left 1
        · intro w hSw; (try dsimp only at hSw); go_simp; try with_reducible rfl
        simp only [Act.put, List.setIfInBounds_toArray, List.set_cons_zero, List.set_cons_succ]
        -- 4: law.go:93 slot 49 := Op.move t5 [guarded: some (3, false)]
        refine wpAnyH_take (i := 4) (oi := ⟨some 49, _, _, _, _, _⟩) (v := ?_) rfl (by kernel_rfl) (by kernel_rfl) (by kernel_rfl) (fun _ _ _ h => h) (Or.inl ⟨by rfl, ?_⟩) (by assumption) ?_
        rotate_left 1
        · intro w hSw; (try dsimp only at hSw); go_simp; try with_reducible rfl
        simp only [Act.put, List.setIfInBounds_toArray, List.set_cons_zero, List.set_cons_succ]
        -- 5: law.go:93 slot 50 := Op.move t8 [guarded: some (3, false)]
        refine wpAnyH_take (i := 5) (oi := ⟨some 50, _, _, _, _, _⟩) (v := ?_) rfl (by kernel_rfl) (by kernel_rfl) (by kernel_rfl) (fun _ _ _ h => h) (Or.inl ⟨by rfl, ?_⟩) (by assumption) ?_
        rotate_left 1
        · intro w hSw; (try dsimp only at hSw); go_simp; try with_reducible rfl
        simp only [Act.put, List.setIfInBounds_toArray, List.set_cons_zero, List.set_cons_succ]
        -- 6: law.go:93 slot 51 := Op.binOp BinOp.neq 3 t49 t50 3 [guarded: some (3, false)]
        refine wpAnyH_take (i := 6) (oi := ⟨some 51, _, _, _, _, _⟩) (v := ?_) rfl (by kernel_rfl) (by kernel_rfl) (by kernel_rfl) (fun _ _ _ h => h) (Or.inl ⟨by rfl, ?_⟩) (by assumption) ?_
        rotate_left 1
        · intro w hSw; (try dsimp only at hSw); go_simp; try with_reducible rfl
        simp only [Act.put, List.setIfInBounds_toArray, List.set_cons_zero, List.set_cons_succ]
        -- 7: law.go:93 slot 52 := Op.pick t48 (const (Value.bool true)) t51
        refine wpAnyH_take (i := 7) (oi := ⟨some 52, _, _, _, _, _⟩) (v := ?_) rfl (by kernel_rfl) (by kernel_rfl) (by kernel_rfl) (fun _ _ _ h => h) (Or.inl ⟨by rfl, ?_⟩) (by assumption) ?_
        rotate_left 1
        · intro w hSw; (try dsimp only at hSw); go_simp; try with_reducible rfl
        simp only [Act.put, List.setIfInBounds_toArray, List.set_cons_zero, List.set_cons_succ]
        -- 8: law.go:93 slot 53 := Op.move t52
        refine wpAnyH_take (i := 8) (oi := ⟨some 53, _, _, _, _, _⟩) (v := ?_) rfl (by kernel_rfl) (by kernel_rfl) (by kernel_rfl) (fun _ _ _ h => h) (Or.inl ⟨by rfl, ?_⟩) (by assumption) ?_
        rotate_left 1
        · intro w hSw; (try dsimp only at hSw); go_simp; try with_reducible rfl
        simp only [Act.put, List.setIfInBounds_toArray, List.set_cons_zero, List.set_cons_succ]
        -- 9: law.go:93 slot 54 := Op.load 35 t4 [guarded: some (8, false)]
        refine wpAnyH_take (i := 9) (oi := ⟨some 54, _, _, _, _, _⟩) rfl (by kernel_rfl) (by kernel_rfl) (by kernel_rfl) (fun _ _ _ h => h) (yieldsIf_load_mid (by rfl) _ _ rfl _ _ rfl ([.int .i32 tt.ver, .slice B1 tt.ins.length d1, .slice B2 tt.outs.length d2, .int .u32 tt.lock]) _ (fun _ h => h.1) hU rfl hi4) (by assumption) ?_
        simp only [Act.put, List.setIfInBounds_toArray, List.set_cons_zero, List.set_cons_succ]
        -- 11: law.go:93 slot 56 := Op.load 46 t7 [guarded: some (8, false)]
        refine wpAnyH_take (i := 11) (oi := ⟨some 56, _, _, _, _, _⟩) rfl (by kernel_rfl) (by kernel_rfl) (by kernel_rfl) (fun _ _ _ h => h) (yieldsIf_load_mid (by rfl) _ _ rfl _ _ rfl ([.int .i32 tt.ver, .slice C1 tt.ins.length k1, .slice C2 tt.outs.length k2, .int .u32 tt.lock]) _ (fun _ h => h.2.1) hU7 rfl hi47) (by assumption) ?_
        simp only [Act.put, List.setIfInBounds_toArray, List.set_cons_zero, List.set_cons_succ]
        -- 10: law.go:93 slot 55 := Op.call { value (Operand.func 16), args := #[t54], argTypes := #[35] } [guarded: some (8, false)]
        refine wpAnyH_ready (rs := [10]) (by kernel_rfl) (by simp) ?_
        refine AllReadyH.cons (o := ⟨some 55, _, _, _, _, _⟩) rfl (fun K hK => ?_) AllReadyH.nil
        go_simp
        refine (plain_calls _ _ tt ([.int .i32 tt.ver, .slice B1 tt.ins.length d1, .slice B2 tt.outs.length d2, .int .u32 tt.lock]) (RK.K_below hKq hHeld.2.2) (by omega) (by omega)).mono ?_
        rintro e w11 ⟨csx, rfl, hKx, hbq⟩
        refine hK.out _ _ ⟨range_below hbq hHeld.1, range_below hbq hHeld.2.1, below_then hHeld.2.2 hHeld.2.2.size hbq⟩ (fun hHeld' => ?_)
        clear hHeld
        have hHeld := hHeld'
        clear hHeld'
        clear hK K
        try (simp only [Act.put, List.setIfInBounds_toArray, List.set_cons_zero, List.set_cons_succ])
        -- 12: law.go:93 slot 57 := Op.call { value (Operand.func 19), args := #[t55, t56], argTypes := #[46, 46] } [guarded: some (8, false)]
        refine wpAnyH_ready (rs := [12]) (by kernel_rfl) (by simp) ?_
        refine AllReadyH.cons (o := ⟨some 57, _, _, _, _, _⟩) rfl (fun K hK => ?_) AllReadyH.nil
        go_simp
        refine (same_calls _ _ _ tt csx ([.int .i32 tt.ver, .slice C1 tt.ins.length k1, .slice C2 tt.outs.length k2, .int .u32 tt.lock]) hKx (RK.K_below hJq hHeld.2.2)).mono ?_
        rintro e w12 ⟨rfl, hbq⟩
        refine hK.out _ _ ⟨range_below hbq hHeld.1, range_below hbq hHeld.2.1, below_then hHeld.2.2 hHeld.2.2.size hbq⟩ (fun hHeld' => ?_)
        clear hHeld
        have hHeld := hHeld'
        clear hHeld'
        clear hK K
        try (simp only [Act.put, List.setIfInBounds_toArray, List.set_cons_zero, List.set_cons_succ])
        -- 13: law.go:93 slot 58 := Op.unOp UnOp.not 4 t57 [guarded: some (8, false)]
        refine wpAnyH_take (i := 13) (oi := ⟨some 58, _, _, _, _, _⟩) (v := ?_) rfl (by kernel_rfl) (by kernel_rfl) (by kernel_rfl) (fun _ _ _ h => h) (Or.inl ⟨by rfl, ?_⟩) (by assumption) ?_
        rotate_left 1
        · intro w hSw; (try dsimp only at hSw); go_simp; try with_reducible rfl
        simp only [Act.put, List.setIfInBounds_toArray, List.set_cons_zero, List.set_cons_succ]
        -- 14: law.go:93 slot 59 := Op.pick t53 (const (Value.bool true)) t58
        refine wpAnyH_take (i := 14) (oi := ⟨some 59, _, _, _, _, _⟩) (v := ?_) rfl (by kernel_rfl) (by kernel_rfl) (by kernel_rfl) (fun _ _ _ h => h) (Or.inl ⟨by rfl, ?_⟩) (by assumption) ?_
        rotate_left 1
        · intro w hSw; (try dsimp only at hSw); go_simp; try with_reducible rfl
        simp only [Act.put, List.setIfInBounds_toArray, List.set_cons_zero, List.set_cons_succ]
        refine wpAnyH_done (by kernel_rfl) ?_ _
        refine NoPanic.normal ?_
        have hx7 := heap_below hHeld.2.2 hx6q
        have hK7 := RK.K_below hKq hHeld.2.2
        have hB7 := below_then hBq hBq.size hHeld.2.2
        have hR7 := hRq.below hHeld.2.2
        clear hHeld r1 r2 hx6q hy6q hKq hJq hBq hRq e13 e13'
        by_cases hE0 : EE = 0
        · subst hE0
          have HRD := Lib.hid (dec_read hbs HEE.out)
          have hNN : decN bs = NN := by have := HNN.out; rwa [if_pos HEE.out] at this
          have htt : decT bs = tt := by have := HTT.out; unfold tR at this; rwa [if_pos HEE.out] at this
          have HN2 : Hid (NN ≤ n ∧ encF tt = bs.take NN ∧ encErr tt = 0) := Lib.hid (by
            obtain ⟨q1, q2, q3, q4, q5, q6⟩ := HRD.out
            rw [htt] at q1 q4 q5
            rw [hNN] at q3 q4 q5 q6
            rw [HL.out] at q3
            refine ⟨q3, q4, ?_⟩
            unfold encErr
            rw [if_neg (by rw [checkF_of q1]; decide), if_neg (by show ¬ 65536 < (encF tt).length; omega)])
          clear HRD hNN htt
          go_wp2_with (first | ((with_reducible refine wpList_at 63 ?_); refine wpList_load_row rfl 35 (.tmp 4) rfl w3.heap.size rfl 35 _ _ _ hx7 hU rfl hi4 ?_))
          refine (enc_calls _ _ tt [.int .i32 tt.ver, .slice B1 tt.ins.length d1, .slice B2 tt.outs.length d2, .int .u32 tt.lock] hK7).mono ?_
          rintro e w8 ⟨_, he0, hb8⟩
          obtain ⟨A8, N8, c8, rfl, hO8⟩ := he0 HN2.out.2.2
          rw [HN2.out.2.1] at hO8
          have hB8 := below_then hB7 hB7.size hb8
          have hR8 := (hR7.below hb8).take_ NN HN2.out.1
          rw [nums_take] at hR8
          have hRe := Rd.of_own hO8
          have k1 : ∀ q, (convert 36 9 (.slice A8 N8 c8)).run Try.prog (w8.drewN q) = .ok (.string (strOfNums (bs.take NN))) (w8.drewN q) := fun q => conv_rd Try.underlying36 Try.underlying5 Try.underlying9 (hRe.drewN q)
          have k2 : ∀ q, (convert 36 9 (.slice A NN c)).run Try.prog (w8.drewN q) = .ok (.string (strOfNums (bs.take NN))) (w8.drewN q) := fun q => conv_rd Try.underlying36 Try.underlying5 Try.underlying9 (hR8.drewN q)
          have k3 := fun W => cut_head A n c NN (by have := HN2.out.1; omega) W
          clear he0 hO8 hb8 hR7 hB7 hRe hR8 hx7 hK7
          go_wp2_with fail
          have k0 := k1 0
          go_quiet (fail)
          rename_i nq
          have hBf := below_drewN hB8 nq
          go_wp2
          go_ret
          exact ⟨rfl, hBf⟩
        · have e15 : (EE != 0) = true := by rw [bne_iff_ne]; exact hE0
          clear hx7 hK7 hR7
          go_wp2
          go_ret
          exact ⟨rfl, hB7⟩
end Go.Proofs.Ytjlkakggmfmfiaa
