/- block.Encode: a block's bytes, or why it has none. -/
import Derived.Test.YtjlkakggmfmfiaaDoorBlkLaw
import Derived.Test.YtjlkakggmfmfiaaDoorHBytes
set_option maxRecDepth 100000
set_option linter.unusedVariables false
namespace Go.Proofs.YtjlkakggmfmfiaaDoor
open Go Go.RowKit
def EncBPost (w : World) (h : Hd) (ts : List TTx) (e : Ending) (w' : World) : Prop :=
  (encBErr ts ≠ 0 → e = .returned (.tuple #[.slice none 0 0, .int .i64 (encBErr ts)])) ∧
  (encBErr ts = 0 → ∃ A N c, e = .returned (.tuple #[.slice A N c, .int .i64 0]) ∧ w'.ownsRow w.heap.size 5 1 (.slice A N c) N (nums .u8 (encBF h ts))) ∧ Below w.heap.size w w'
theorem range_pre {w : World} {b o : Nat} {xs ys : List Value} (h : w.rangeAt b o (xs ++ ys)) : w.rangeAt b o xs := fun j v hv => by
  refine h j v ?_
  rw [List.getElem?_append_left (by rcases Nat.lt_or_ge j xs.length with h1 | h1; exact h1; rw [List.getElem?_eq_none h1] at hv; cases hv)]
  exact hv
theorem encBE_step {ts : List TTx} {k : Nat} {x : TTx} (hx : ts[k]? = some x) (L : Nat) : encBE (ts.drop k) L = if encErr x ≠ 0 then encErr x else if 262144 < L + (encF x).length then 6 else encBE (ts.drop (k + 1)) (L + (encF x).length) := by
  obtain ⟨hk, he⟩ := List.getElem?_eq_some_iff.1 hx
  rw [List.drop_eq_getElem_cons hk, he, encBE]
set_option maxHeartbeats 8000000 in
theorem encB_calls (w : World) (S : Nat → Prop) (h : Hd) (hk : h.Ok) (A : Option Addr) (n c : Nat) (ts : List TTx) (hnc : n ≤ c) (hcm : c ≤ maxLen) (hC : txK.C S w A n ts) :
    Calls Tryd.prog 52 #[.agg (blkCells h A n c).toArray] w (EncBPost w h ts) := by
  have hUH := Tryd.underlying53
  have hU := Tryd.underlying69
  have hiH : (Tryd.prog.info? 53).map (·.size) = some h.cells.length := by rw [Hd.length hk]; kernel_rfl
  have hcm' := hcm
  unfold maxLen at hcm'
  have hnI : (n : Int) ≤ 9223372036854775807 := by omega
  have hln := Lib.hid hC.len
  have g0 := heap_alloc_new w (.cells (blkCells h A n c).toArray 64)
  have hb0 : Below w.heap.size w (w.alloc (.cells (blkCells h A n c).toArray 64)) := (Below.refl _ _).alloc (Nat.le_refl _) _
  go_enter Tryd.func52, Tryd.ntmps52
  go_upto_region 1 with fail
  refine wp_gen (q := fun wi => Below w.heap.size w wi ∧ wi.heap[w.heap.size]? = some (.cells (blkCells h A n c).toArray 64)) ⟨hb0, g0⟩ (fun w0 hw => ?_)
  clear hb0 g0
  obtain ⟨hb0, g0⟩ := hw
  have tS : w0.cell? ⟨w.heap.size, 68, none⟩ = some (.slice A n c) := blk_cell g0 (by rw [List.getElem?_toArray]; exact blkCells_at hk A n c)
  have rH : w0.rangeAt w.heap.size 0 h.cells := range_pre (range_block (xs := blkCells h A n c) g0)
  have hC0 := RK.C.below hC hb0
  clear hC
  by_cases e1 : 1024 < n
  · have e1' : (1024 : Int) < (n : Int) := by omega
    have HE : Hid (encBErr ts = 3) := Lib.hid (by unfold encBErr; rw [if_pos (by rw [hln.out]; exact e1)])
    go_wp2
    go_ret2
    exact ⟨(fun _ => by rw [HE.out]; rfl), (fun h => by rw [HE.out] at h; cases h), hb0⟩
  · have e1' : ¬ (1024 : Int) < (n : Int) := by omega
    go_upto_region 3 with fail
    have hlo := heap_lt g0
    clear g0
    have hwr : IntKind.u64.wrap (n : Int) = n := by rw [IntKind.wrap_u64]; omega
    have HX64 : Hid (n < 18446744073709551616) := Lib.hid (by omega)
    refine wp_region_noPanic ?_
    refine wp_region_held_drew (S := fun w' => w'.rangeAt w.heap.size 0 h.cells ∧ w'.cell? ⟨w.heap.size, 68, none⟩ = some (.slice A n c) ∧ Below w0.heap.size w0 w') (by kernel_rfl) ⟨rH, tS, Below.drew (Below.refl _ _)⟩ (fun hHeld => ?_)
    -- 0: block.go:138 slot 13 := Op.fieldAddr 64 t1 0
    refine wpAnyH_take (i := 0) (oi := ⟨some 13, _, _, _, _, _⟩) (v := ?_) rfl (by kernel_rfl) (by kernel_rfl) (by kernel_rfl) (fun _ _ _ h => h) (Or.inl ⟨by rfl, ?_⟩) (by assumption) ?_
    rotate_left 1
    · intro w hSw; (try dsimp only at hSw); go_simp; try with_reducible rfl
    simp only [Act.put, List.setIfInBounds_toArray, List.set_cons_zero, List.set_cons_succ]
    -- 1: block.go:138 slot 14 := Op.load 53 t13
    refine wpAnyH_take (i := 1) (oi := ⟨some 14, _, _, _, _, _⟩) rfl (by kernel_rfl) (by kernel_rfl) (by kernel_rfl) (fun _ _ _ h => h) (yieldsIf_load_mid (by rfl) _ _ rfl _ _ rfl (h.cells) _ (fun _ h => h.1) hUH rfl hiH) (by assumption) ?_
    simp only [Act.put, List.setIfInBounds_toArray, List.set_cons_zero, List.set_cons_succ]
    -- 3: block.go:138 slot 16 := Op.fieldAddr 64 t1 1
    refine wpAnyH_take (i := 3) (oi := ⟨some 16, _, _, _, _, _⟩) (v := ?_) rfl (by kernel_rfl) (by kernel_rfl) (by kernel_rfl) (fun _ _ _ h => h) (Or.inl ⟨by rfl, ?_⟩) (by assumption) ?_
    rotate_left 1
    · intro w hSw; (try dsimp only at hSw); go_simp; try with_reducible rfl
    simp only [Act.put, List.setIfInBounds_toArray, List.set_cons_zero, List.set_cons_succ]
    -- 4: block.go:138 slot 17 := Op.load 62 t16
    refine wpAnyH_take (i := 4) (oi := ⟨some 17, _, _, _, _, _⟩) (v := ?_) rfl (by kernel_rfl) (by kernel_rfl) (by kernel_rfl) (fun _ _ _ h => h) (Or.inl ⟨by rfl, ?_⟩) (by assumption) ?_
    rotate_left 1
    · intro w hSw; (try dsimp only at hSw); go_simp; try with_reducible rfl
    simp only [Act.put, List.setIfInBounds_toArray, List.set_cons_zero, List.set_cons_succ]
    -- 5: block.go:138 slot 18 := Op.call { builtin len, args := #[t17], argTypes := #[62] }
    refine wpAnyH_take (i := 5) (oi := ⟨some 18, _, _, _, _, _⟩) (v := ?_) rfl (by kernel_rfl) (by kernel_rfl) (by kernel_rfl) (fun _ _ _ h => h) (Or.inl ⟨by rfl, ?_⟩) (by assumption) ?_
    rotate_left 1
    · intro w hSw; (try dsimp only at hSw); go_simp; try with_reducible rfl
    simp only [Act.put, List.setIfInBounds_toArray, List.set_cons_zero, List.set_cons_succ]
    -- 6: block.go:138 slot 19 := Op.convert 3 56 t18
    refine wpAnyH_take (i := 6) (oi := ⟨some 19, _, _, _, _, _⟩) (v := ?_) rfl (by kernel_rfl) (by kernel_rfl) (by kernel_rfl) (fun _ _ _ h => h) (Or.inl ⟨by rfl, ?_⟩) (by assumption) ?_
    rotate_left 1
    · intro w hSw; (try dsimp only at hSw); go_simp; try with_reducible rfl
    simp only [Act.put, List.setIfInBounds_toArray, List.set_cons_zero, List.set_cons_succ]
    -- 2: block.go:138 slot 15 := Op.call { value (Operand.func 34), args := #[t14], argTypes := #[53] }
    refine wpAnyH_ready (rs := [2]) (by kernel_rfl) (by simp) ?_
    refine AllReadyH.cons (o := ⟨some 15, _, _, _, _, _⟩) rfl (fun K hK => ?_) AllReadyH.nil
    go_simp
    refine (bytes_calls _ h hk).mono ?_
    rintro e w2 ⟨A2, c2, rfl, hO2, hbz⟩
    have hs2 := hHeld.2.2.size
    have hO2m := own_mono hO2 hs2
    have hs2b := Nat.le_trans hs2 hbz.size
    refine hK.out _ _ ⟨range_below hbz hHeld.1, cell_below hbz hHeld.2.1, below_then hHeld.2.2 hHeld.2.2.size hbz⟩ (fun hHeld' => ?_)
    clear hHeld
    have hHeld := hHeld'
    clear hHeld'
    clear hK K
    try (simp only [Act.put, List.setIfInBounds_toArray, List.set_cons_zero, List.set_cons_succ])
    -- 7: block.go:138 slot 20 := Op.call { value (Operand.func 75), args := #[t15, t19], argTypes := #[22, 56] }
    refine wpAnyH_ready (rs := [7]) (by kernel_rfl) (by simp) ?_
    refine AllReadyH.cons (o := ⟨some 20, _, _, _, _, _⟩) rfl (fun K hK => ?_) AllReadyH.nil
    go_simp
    refine (comp_calls _ w0.heap.size A2 80 c2 (hbF h) n HX64 (by decide) hs2b hO2m (80 + (compF n).length) (hbF h ++ compF n) rfl rfl).mono ?_
    rintro e w3 ⟨A3, c3, rfl, hO3, hG3, hx3⟩
    refine hK.out _ _ ⟨range_grown hG3 hHeld.1 (own_lt_ne hO2m hlo), cell_grown hG3 hHeld.2.1 (own_lt_ne hO2m hlo), hHeld.2.2.grown hG3 hs2b (fun q e => own_base hO2m q e)⟩ (fun hHeld' => ?_)
    clear hHeld
    have hHeld := hHeld'
    clear hHeld'
    clear hK K
    try (simp only [Act.put, List.setIfInBounds_toArray, List.set_cons_zero, List.set_cons_succ])
    -- 8: block.go:138 slot 4 := Op.assign t20
    refine wpAnyH_take (i := 8) (oi := ⟨some 4, _, _, _, _, _⟩) (v := ?_) rfl (by kernel_rfl) (by kernel_rfl) (by kernel_rfl) (fun _ _ _ h => h) (Or.inl ⟨by rfl, ?_⟩) (by assumption) ?_
    rotate_left 1
    · intro w hSw; (try dsimp only at hSw); go_simp; try with_reducible rfl
    simp only [Act.put, List.setIfInBounds_toArray, List.set_cons_zero, List.set_cons_succ]
    refine wpAnyH_done (by kernel_rfl) ?_ _
    refine NoPanic.normal ?_
    have tS3 := hHeld.2.1
    have hB3 := hHeld.2.2
    have HL0 : Hid (80 + (compF n).length ≤ 90) := Lib.hid (by have := compF_le n; omega)
    have h0 : w3.ownsRow w0.heap.size 5 1 (.slice A3 (80 + (compF n).length) c3) (80 + (compF n).length) (nums .u8 (hbF h ++ compF n ++ linesF (ts.take 0))) := by simpa [linesF] using hO3
    have HE0 : Hid (encBErr ts = encBE (ts.drop 0) (80 + (compF n).length)) := Lib.hid (by unfold encBErr; rw [if_neg (by rw [hln.out]; exact e1), hln.out, List.drop_zero])
    obtain ⟨L0, hL0⟩ : ∃ L0, 80 + (compF n).length = L0 := ⟨_, rfl⟩
    rw [hL0] at h0 HE0 HL0 ⊢
    clear hHeld hO2 hO2m hO3 hG3 hx3 hL0 rH tS hs2 hs2b hbz hwr HX64
    have hL0 := HL0.out
    go_wp2
    go_loopw [4, 24] (fun v4 v24 wr => ∃ (k L : Nat) (A4 : Option Addr) (c4 : Nat), k ≤ n ∧ v24 = .int .i64 k ∧ v4 = .slice A4 L c4 ∧ L ≤ 262144 ∧ wr.ownsRow w0.heap.size 5 1 (.slice A4 L c4) L (nums .u8 (hbF h ++ compF n ++ linesF (ts.take k))) ∧ Hid (encBErr ts = encBE (ts.drop k) L) ∧ Below w0.heap.size w0 wr) (fun _ v _ => n - (intOf v).toNat)
    case atStart => exact ⟨0, L0, A3, c3, by omega, rfl, rfl, by omega, h0, HE0, hB3⟩
    case round =>
      clear h0 HE0 hB3 tS3
      obtain ⟨k, L, A4, c4, hk', rfl, rfl, hLm, hO, HE, hB⟩ := hrel
      have hbw := below_then hb0 hb0.size hB
      have hms := hB.size
      by_cases hlt : k < n
      · have hlt' : (k : Int) < (n : Int) := by omega
        have hkk : (0 : Int) ≤ (k : Int) := by omega
        obtain ⟨b, o, cs, x, hA, hx, hKx, hcx⟩ := (RK.C.below hC0 hB).get k hlt
        subst hA
        have HST := Lib.hid (encBE_step hx L)
        have hfl := take_flat encF ts k x hx
        have HFL : Hid (nums .u8 (hbF h ++ compF n ++ linesF (ts.take k)) ++ nums .u8 (encF x) = nums .u8 (hbF h ++ compF n ++ linesF (ts.take (k + 1)))) := Lib.hid (by
          rw [← nums_append]; unfold linesF; rw [hfl]; simp only [List.append_assoc])
        obtain ⟨X1, xc1, X2, xc2, rfl, x1, x2, x3, x4, _, _⟩ := txK_form hKx
        unfold maxLen at x2 x4
        have hrx : wr.rangeAt b (o + k * 4) [.int .i32 x.ver, .slice X1 x.ins.length xc1, .slice X2 x.outs.length xc2, .int .u32 x.lock] := hcx
        have hi4 := info_tx4 (.int .i32 x.ver) (.slice X1 x.ins.length xc1) (.slice X2 x.outs.length xc2) (.int .u32 x.lock)
        clear hx hcx hfl
        go_upto_region 7 with (first
          | ((with_reducible refine wpList_at 27 ?_); refine wpList_load_mid rfl 69 (.tmp 26) rfl b (o + k * 4) rfl [.int .i32 x.ver, .slice X1 x.ins.length xc1, .slice X2 x.outs.length xc2, .int .u32 x.lock] _ hrx hU rfl hi4 ?_))
        refine wp_gen (q := fun wi => wi.heap[wr.heap.size]? = some (.cells ([.int .i32 x.ver, .slice X1 x.ins.length xc1, .slice X2 x.outs.length xc2, .int .u32 x.lock]).toArray 69) ∧ Below wr.heap.size wr wi) ⟨heap_alloc_new _ _, (Below.refl _ _).alloc (Nat.le_refl _) _⟩ (fun w5 hw => ?_)
        obtain ⟨g5, hb5⟩ := hw
        have hB5 := below_then hB hB.size hb5
        have hbw5 := below_then hbw hbw.size hb5
        have hO5 := own_below hO hb5
        have hKx5 := RK.K_below hKx hb5
        clear hrx hO hKx hb5
        go_wp2_with (first | ((with_reducible refine wpList_at 29 ?_); refine wpList_load_row rfl 69 (.tmp 6) rfl wr.heap.size rfl 69 _ _ _ g5 hU rfl hi4 ?_))
        refine (enc_calls w5 _ x [.int .i32 x.ver, .slice X1 x.ins.length xc1, .slice X2 x.outs.length xc2, .int .u32 x.lock] hKx5).mono ?_
        rintro e w6 ⟨he1, he0, hb6⟩
        have hB6 := below_then hB5 hB5.size hb6
        have hbw6 := below_then hbw5 hbw5.size hb6
        have hO6 := own_below hO5 hb6
        clear g5 hO5 hKx5 hB5 hbw5 hb6 hbw
        by_cases hE : encErr x = 0
        · obtain ⟨A6, N, c6, rfl, hOx⟩ := he0 hE
          have hR6 := Rd.of_own hOx
          have HN : Hid ((encF x).length = N) := Lib.hid (by have := hR6.1; rwa [nums_length] at this)
          have hNm : N ≤ 65536 := by have := (encErr_zero hE).2; have := HN.out; omega
          have hEq : (encErr x == 0) = true := beq_iff_eq.2 hE
          have HST2 : Hid (encBE (ts.drop k) L = if 262144 < L + N then 6 else encBE (ts.drop (k + 1)) (L + N)) := Lib.hid (by rw [HST.out, if_neg (by rw [hE]; decide), HN.out])
          have hms6 := hB6.size
          clear he1 he0 hE hOx HST HN
          go_upto_region 11 with (first
            | ((with_reducible refine wpList_at 38 ?_); refine wpList_appN rfl (.tmp 36) (.tmp 37) 22 rfl w0.heap.size 5 _ 1 Tryd.underlying22 infoU8 rfl (.slice A4 L c4) L _ rfl hO6 A6 N c6 (nums .u8 (encF x)) rfl hR6 (nums_one _ _) (L + N) (nums .u8 (hbF h ++ compF n ++ linesF (ts.take (k + 1)))) rfl HFL.out (by unfold maxLen; omega) (by omega) hms6 ?_
               intro A7 c7 w7 hO7 hG7 hx7))
          have hB7 : Below w0.heap.size w0 w7 := hB6.grown hG7 hms6 (fun q e => own_base hO6 q e)
          have hbw7 : Below w.heap.size w w7 := below_then hb0 hb0.size hB7
          clear hO6 hG7 hx7 hR6 hB6 hbw6
          by_cases hbig : 262144 < L + N
          · have hbig' : (262144 : Int) < (L : Int) + (N : Int) := by omega
            have HF : Hid (encBErr ts = 6) := Lib.hid (by rw [HE.out, HST2.out, if_pos hbig])
            go_wp2
            go_ret2
            exact ⟨(fun _ => by rw [HF.out]; rfl), (fun h => by rw [HF.out] at h; cases h), hbw7⟩
          · have hbig' : ¬ (262144 : Int) < (L : Int) + (N : Int) := by omega
            have HF : Hid (encBErr ts = encBE (ts.drop (k + 1)) (L + N)) := Lib.hid (by rw [HE.out, HST2.out, if_neg hbig])
            go_wp2
            go_roundw
            case rel => exact ⟨k + 1, L + N, A7, c7, by omega, by go_num, rfl, by omega, hO7, HF, hB7⟩
            case measure => simp [intOf]; omega
        · obtain rfl := he1 hE
          have hEq : (encErr x == 0) = false := beq_eq_false_iff_ne.2 hE
          have HF : Hid (encBErr ts = encErr x) := Lib.hid (by rw [HE.out, HST.out, if_pos hE])
          have HNE := Lib.hid hE
          clear he1 he0 hE
          go_wp2
          go_ret2
          exact ⟨(fun _ => by rw [HF.out]; rfl), (fun h => absurd (HF.out ▸ h) HNE.out), hbw6⟩
      · have hlt' : ¬ (k : Int) < (n : Int) := by omega
        have HZ : Hid (encBErr ts = 0) := Lib.hid (by rw [HE.out, List.drop_eq_nil_of_le (by rw [hln.out]; omega)]; rfl)
        have HB : Hid (hbF h ++ compF n ++ linesF (ts.take k) = encBF h ts) := Lib.hid (by unfold encBF; rw [List.take_of_length_le (by rw [hln.out]; omega), hln.out])
        rw [HB.out] at hO
        have hOw := own_mono hO hb0.size
        go_wp2
        go_ret2
        exact ⟨(fun h => absurd HZ.out h), (fun _ => ⟨A4, L, c4, rfl, hOw⟩), hbw⟩
end Go.Proofs.YtjlkakggmfmfiaaDoor
