/- tx.Tx: Encode. -/
import Derived.Test.YtclkgflficlmiaaDoorTxFn
set_option maxRecDepth 100000
set_option linter.unusedVariables false
namespace Go.Proofs.YtclkgflficlmiaaDoor
open Go Go.RowKit
def EncPost (w : World) (t : TTx) (e : Ending) (w' : World) : Prop :=
  (encErr t ≠ 0 → e = .returned (.tuple #[.slice none 0 0, .int .i64 (encErr t)])) ∧
  (encErr t = 0 → ∃ A N c, e = .returned (.tuple #[.slice A N c, .int .i64 0]) ∧ w'.ownsRow w.heap.size 5 1 (.slice A N c) N (nums .u8 (encF t))) ∧ Below w.heap.size w w'
theorem txK_size {S : Nat → Prop} {w : World} {t : TTx} {cs : List Value} (h : txK.K S w t cs) : (Tryd.prog.info? 54).map (·.size) = some cs.length := by rw [txK.len h]; kernel_rfl
theorem txK_sizeA {S : Nat → Prop} {w : World} {t : TTx} {cs : List Value} (h : txK.K S w t cs) : (Tryd.prog.info? 54).map (·.size) = some cs.toArray.size := by rw [List.size_toArray]; exact txK_size h
set_option maxHeartbeats 2000000 in
theorem enc_calls (w : World) (S : Nat → Prop) (t : TTx) (cs : List Value) (hK : txK.K S w t cs) :
    Calls Tryd.prog 36 #[.agg cs.toArray] w (EncPost w t) := by
  have hU := Tryd.underlying54
  have hi := txK_size hK
  have hiA := txK_sizeA hK
  have hids := tx_ids hK
  have hb0 : Below w.heap.size w (w.alloc (.cells cs.toArray 54)) := (Below.refl _ _).alloc (Nat.le_refl _) _
  have hg0 := heap_alloc_new w (.cells cs.toArray 54)
  go_enter Tryd.func36, Tryd.ntmps36
  go_upto_region 1 with fail
  refine wp_gen (q := fun wi => Below w.heap.size w wi ∧ wi.heap[w.heap.size]? = some (.cells cs.toArray 54)) ⟨hb0, hg0⟩ (fun w0 hw => ?_)
  clear hb0 hg0
  obtain ⟨hb0, hg0⟩ := hw
  go_wp2_with (first | (refine wpList_load_row rfl 54 (.tmp 1) rfl w.heap.size rfl 54 _ _ _ hg0 hU rfl hiA ?_))
  refine (check_calls w0 S t cs (RK.K_below hK hb0)).mono ?_
  rintro e w1 ⟨rfl, hb1⟩
  have hg1 := heap_below hb1 hg0
  have b01 := below_then hb0 hb0.size hb1
  clear hg0 hb0 hb1
  by_cases hc : checkF t = 0
  · have hc' : (checkF t != 0) = false := by rw [hc]; rfl
    have hbd := checkF_zero hc
    have hll := layF_le t (fun x hx => (hids x hx).idl) hbd t.hasWit
    have HEE : Hid (encErr t = if 65536 < (layF t t.hasWit).length then 6 else 0) := Lib.hid (by unfold encErr; rw [if_neg (by rw [hc]; decide)])
    have rt := range_block hg1
    have HC := Lib.hid hc
    have HLL := Lib.hid hll
    clear hbd hll hg1 hc
    go_upto_region 4 with fail
    refine wp_region_noPanic ?_
    refine wp_region_held_drew (S := fun w' => w'.rangeAt w.heap.size 0 cs ∧ Below w1.heap.size w1 w') (by kernel_rfl) ⟨rt, Below.drew (Below.refl _ _)⟩ (fun hHeld => ?_)
    -- 0: tx.go:126 slot 11 := Op.load 69 t1
    refine wpAnyH_take (i := 0) (oi := ⟨some 11, _, _, _, _, _⟩) rfl (by kernel_rfl) (by kernel_rfl) (by kernel_rfl) (fun _ _ _ h => h) (yieldsIf_load_mid (by rfl) _ _ rfl _ _ rfl (cs) _ (fun _ h => h.1) hU rfl hi) (by assumption) ?_
    simp only [Act.put, List.setIfInBounds_toArray, List.set_cons_zero, List.set_cons_succ]
    -- 1: tx.go:126 slot 12 := Op.load 69 t1
    refine wpAnyH_take (i := 1) (oi := ⟨some 12, _, _, _, _, _⟩) rfl (by kernel_rfl) (by kernel_rfl) (by kernel_rfl) (fun _ _ _ h => h) (yieldsIf_load_mid (by rfl) _ _ rfl _ _ rfl (cs) _ (fun _ h => h.1) hU rfl hi) (by assumption) ?_
    simp only [Act.put, List.setIfInBounds_toArray, List.set_cons_zero, List.set_cons_succ]
    -- 2: tx.go:126 slot 13 := Op.call { value (Operand.func 70), args := #[t12], argTypes := #[69] }
    refine wpAnyH_ready (rs := [2]) (by kernel_rfl) (by simp) ?_
    refine AllReadyH.cons (o := ⟨some 13, _, _, _, _, _⟩) rfl (fun K hK' => ?_) AllReadyH.nil
    go_simp
    refine (wit_calls _ S t cs (RK.K_below hK (below_then b01 b01.size hHeld.2))).mono ?_
    rintro e w2 ⟨rfl, hbq⟩
    try go_wp2_with fail
    refine hK'.out _ _ ⟨range_below hbq hHeld.1, below_then hHeld.2 hHeld.2.size hbq⟩ (fun hHeld' => ?_)
    clear hHeld
    have hHeld := hHeld'
    clear hHeld'
    clear hbq
    clear hK' K
    try (simp only [Act.put, List.setIfInBounds_toArray, List.set_cons_zero, List.set_cons_succ])
    -- 3: tx.go:126 slot 14 := Op.call { value (Operand.func 69), args := #[t11, t13], argTypes := #[69, 4] }
    refine wpAnyH_ready (rs := [3]) (by kernel_rfl) (by simp) ?_
    refine AllReadyH.cons (o := ⟨some 14, _, _, _, _, _⟩) rfl (fun K hK' => ?_) AllReadyH.nil
    go_simp
    have hsz := hHeld.2.size
    refine (lay_calls _ S t cs (RK.K_below hK (below_then b01 b01.size hHeld.2)) t.hasWit HLL.out).mono ?_
    rintro e w3 ⟨A3, N3, c3, rfl, ho3, hbq⟩
    try go_wp2_with fail
    refine hK'.out _ _ ⟨range_below hbq hHeld.1, below_then hHeld.2 hHeld.2.size hbq⟩ (fun hHeld' => ?_)
    clear hHeld
    have hHeld := hHeld'
    clear hHeld'
    clear hbq
    clear hK' K
    try (simp only [Act.put, List.setIfInBounds_toArray, List.set_cons_zero, List.set_cons_succ])
    -- 4: tx.go:126 slot 5 := Op.assign t14
    refine wpAnyH_take (i := 4) (oi := ⟨some 5, _, _, _, _, _⟩) (v := ?_) rfl (by kernel_rfl) (by kernel_rfl) (by kernel_rfl) (fun _ _ _ h => h) (Or.inl ⟨by rfl, ?_⟩) (by assumption) ?_
    rotate_left 1
    · intro w hSw; (try dsimp only at hSw); go_simp; try with_reducible rfl
    simp only [Act.put, List.setIfInBounds_toArray, List.set_cons_zero, List.set_cons_succ]
    refine wpAnyH_done (by kernel_rfl) ?_ _
    refine NoPanic.normal ?_
    have hB3 : Below w.heap.size w w3 := below_then b01 b01.size hHeld.2
    have ho3' := own_mono ho3 (show w.heap.size ≤ _ from Nat.le_trans b01.size hsz)
    have hNl := own_len ho3
    clear hHeld ho3 rt
    by_cases hN : 65536 < N3
    · have hN' : (65536 : Int) < (N3 : Int) := by omega
      have he : encErr t = 6 := by rw [HEE.out, if_pos (by omega)]
      have HE6 := Lib.hid he
      clear he hNl
      go_wp2
      go_ret2
      exact ⟨(fun _ => by rw [HE6.out]; rfl), (fun h => by rw [HE6.out] at h; cases h), hB3⟩
    · have hN' : ¬ (65536 : Int) < (N3 : Int) := by omega
      have he : encErr t = 0 := by rw [HEE.out, if_neg (by omega)]
      have HE6 := Lib.hid he
      clear he hNl
      go_wp2
      go_ret2
      exact ⟨(fun h => absurd HE6.out h), (fun _ => ⟨A3, N3, c3, rfl, ho3'⟩), hB3⟩
  · have hc' : (checkF t != 0) = true := by rw [bne_iff_ne]; exact hc
    have he : encErr t = checkF t := by unfold encErr; rw [if_pos hc]
    have HE6 := Lib.hid he
    have HC := Lib.hid hc
    clear he hc
    go_wp2
    go_ret2
    exact ⟨(fun _ => by rw [HE6.out]; rfl), (fun h => by rw [HE6.out] at h; exact absurd h HC.out), b01⟩
end Go.Proofs.YtclkgflficlmiaaDoor
