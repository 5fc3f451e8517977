/- TxWrites: for every transaction and every short run of bytes behind it, the law's call returns true and changes nothing: its bytes are the reference's, and read again they are it. -/
import Derived.Test.YtjlkakggmfmfiaaRefEnc07
import Derived.Test.YtjlkakggmfmfiaaBase
import Derived.Test.YtjlkakggmfmfiaaTxOk
import Derived.Test.YtjlkakggmfmfiaaRows
set_option maxRecDepth 100000
set_option linter.unusedVariables false
namespace Go.Proofs.Ytjlkakggmfmfiaa
open Go Go.RowKit
set_option maxHeartbeats 8000000 in
theorem txWrites_walk (w : World) (t : TTx) (cs : List Value) (hK : txK.K (· < w.heap.size) w t cs) (A1 : Option Addr) (n1 c1 : Nat) (more : List Int) (hm1 : n1 ≤ c1) (hm2 : c1 ≤ maxLen) (hM : (RK.int .u8).C (· < w.heap.size) w A1 n1 more) :
    Calls Try.prog 5 #[.agg cs.toArray, .slice A1 n1 c1] w fun e w' => e = .returned (.bool true) ∧ Below w.heap.size w w' := by
  have hU := Try.underlying35
  have hiA := txK_sizeA hK
  have hi0 := txK_size hK
  have hok := txK_okT hK
  have hmr := RK.C.rd_int hM
  have hmb := RK.C.bytes hM
  have hml : more.length = n1 := hM.1
  unfold maxLen at hm2
  have hn1I : (n1 : Int) ≤ 9223372036854775807 := by omega
  have hb0 : Below w.heap.size w (w.alloc (.cells cs.toArray 35)) := (Below.refl _ _).alloc (Nat.le_refl _) _
  have hg0 := heap_alloc_new w (.cells cs.toArray 35)
  clear hM
  have HML := Lib.hid hml
  clear hml
  go_enter Try.func5, Try.ntmps5
  go_upto_region 1 with fail
  refine wp_gen (q := fun wi => Below w.heap.size w wi ∧ wi.heap[w.heap.size]? = some (.cells cs.toArray 35)) ⟨hb0, hg0⟩ (fun w0 hw => ?_)
  clear hb0 hg0
  obtain ⟨hb0, hg0⟩ := hw
  go_wp2_with fail
  refine (head07_calls w0).mono ?_
  rintro e w1 ⟨rfl, hb1⟩
  have hg1 := heap_below hb1 hg0
  have hB1 := below_then hb0 hb0.size hb1
  clear hg0 hb0 hb1
  go_wp2_with (first | ((with_reducible refine wpList_at 15 ?_); refine wpList_load_row rfl 35 (.tmp 2) rfl w.heap.size rfl 35 _ _ _ hg1 hU rfl hiA ?_))
  refine (big_calls w1 _ t cs (RK.K_below hK hB1)).mono ?_
  rintro e w2 ⟨b, rfl, hbn, hb2⟩
  have hg2 := heap_below hb2 hg1
  have hB2 := below_then hB1 hB1.size hb2
  clear hg1 hB1 hb2
  cases b with
  | true =>
    clear hbn
    go_wp2
    go_ret
    exact ⟨rfl, hB2⟩
  | false =>
    have hbn := hbn rfl
    by_cases hn : 100 < n1
    · have hn' : (100 : Int) < (n1 : Int) := by omega
      go_wp2
      go_ret
      exact ⟨rfl, hB2⟩
    · have hn' : ¬ (100 : Int) < (n1 : Int) := by omega
      go_wp2_with (first | ((with_reducible refine wpList_at 23 ?_); refine wpList_load_row rfl 35 (.tmp 2) rfl w.heap.size rfl 35 _ _ _ hg2 hU rfl hiA ?_))
      refine (enc_calls w2 _ t cs (RK.K_below hK hB2)).mono ?_
      rintro e w3 ⟨hE1, hE2, hb3⟩
      have hg3 := heap_below hb3 hg2
      have hB3 := below_then hB2 hB2.size hb3
      clear hg2 hB2 hb3
      by_cases he : encErr t = 0
      · obtain ⟨A, N, c, rfl, hO⟩ := hE2 he
        have hN := own_len hO
        have hRb := Rd.of_own hO
        have HE := Lib.hid he
        have HN := Lib.hid hN
        clear hE1 hE2 he hO hN
        go_wp2_with (first | ((with_reducible refine wpList_at 28 ?_); refine wpList_load_row rfl 35 (.tmp 2) rfl w.heap.size rfl 35 _ _ _ hg3 hU rfl hiA ?_))
        refine (plain_calls w3 _ t cs (RK.K_below hK hB3) (by omega) (by omega)).mono ?_
        rintro e w4 ⟨csp, rfl, hKp, hb4⟩
        have hg4 := heap_below hb4 hg3
        have hB4 := below_then hB3 hB3.size hb4
        have hRb4 := hRb.below hb4
        clear hg3 hB3 hb4 hRb
        go_wp2_with fail
        refine (renc_calls w4 _ t csp hKp).mono ?_
        rintro e w5 ⟨hF1, hF2, hb5⟩
        obtain ⟨A5, c5, rfl, hO5⟩ := hF2 HE.out
        have hg5 := heap_below hb5 hg4
        have hB5 := below_then hB4 hB4.size hb5
        have hRb5 := hRb4.below hb5
        have hRw5 := Rd.of_own hO5
        have hle5 := own_le hO5
        rw [HN.out] at hRw5 hO5 hle5 ⊢
        obtain ⟨hbd, hmax⟩ := encErr_zero HE.out
        have hpos := encF_pos t
        have kb := conv_rd (P := Try.prog) (src := 36) (dst := 9) (c := c) Try.underlying36 Try.underlying5 Try.underlying9 hRb5
        have kw := conv_rd (P := Try.prog) (src := 36) (dst := 9) (c := c5) Try.underlying36 Try.underlying5 Try.underlying9 hRw5
        have hck : checkF t = 0 := checkF_of hbd
        have HBD := Lib.hid hbd
        have hNp : 4 ≤ N := by have := HN.out; omega
        have hNm : N ≤ 65536 := by have := HN.out; omega
        have HMX := Lib.hid hmax
        clear hg4 hB4 hb5 hF1 hF2 hRb4 hKp hbd hmax hpos
        go_wp2_with (first | ((with_reducible refine wpList_at 47 ?_); refine wpList_load_rowG rfl 35 (.tmp 2) rfl w.heap.size rfl 35 _ _ _ hg5 hU rfl hiA ?_))
        refine (check_calls w5 _ t cs (RK.K_below hK hB5)).mono ?_
        rintro e w6 ⟨rfl, hb6⟩
        rw [hck]
        have hg6 := heap_below hb6 hg5
        have hB6 := below_then hB5 hB5.size hb6
        have hRw6 := hRw5.below hb6
        have HO6 := hO5
        clear hg5 hB5 hRb5 hRw5 kb kw hck hO5
        have hmr6 := hmr.below hB6
        have ho7 : (w6.alloc (.cells #[] 5)).ownsRow w6.heap.size 5 1 (.slice (some ⟨w6.heap.size, 0, none⟩) 0 0) 0 (nums .u8 []) := own_empty _ _ (Nat.le_refl _)
        have hba : Below w6.heap.size w6 (w6.alloc (.cells #[] 5)) := (Below.refl _ _).alloc (Nat.le_refl _) _
        have hRw7 := hRw6.below hba
        have hms : w6.heap.size ≤ (w6.alloc (.cells #[] 5)).heap.size := hba.size
        clear HO6 hRw6
        go_wp2_with (first
          | ((with_reducible refine wpList_at 56 ?_); refine wpList_appN rfl (.tmp 54) (.tmp 55) 36 rfl w6.heap.size 5 _ 1 Try.underlying36 infoU8 rfl (.slice (some ⟨w6.heap.size, 0, none⟩) 0 0) 0 (nums .u8 []) rfl ho7 A5 N c5 (nums .u8 (encF t)) rfl hRw7 (nums_one _ _) N (nums .u8 (encF t)) (Nat.zero_add _) rfl (by unfold maxLen; omega) (by omega) hms ?_
             intro A7 c7 w7 hO7 hG7 hx7
             have hb7 : Below w6.heap.size w6 w7 := hba.grown hG7 hms (fun q e => by cases e; exact Nat.le_refl _)
             have hmr7 := hmr6.below hb7
             have hms7 := hb7.size)
          | ((with_reducible refine wpList_at 58 ?_); refine wpList_appN rfl (.tmp 56) (.tmp 57) 36 rfl w6.heap.size 5 _ 1 Try.underlying36 infoU8 rfl (.slice A7 N c7) N (nums .u8 (encF t)) rfl hO7 A1 n1 c1 (nums .u8 more) rfl hmr7 (nums_one _ _) (N + n1) (nums .u8 (encF t ++ more)) rfl (nums_append _ _ _).symm (by unfold maxLen; omega) (by omega) hms7 ?_
             intro A8 c8 w8 hO8 hG8 hx8
             have hb8 : Below w6.heap.size w6 w8 := hb7.grown hG8 hms7 (fun q e => own_base hO7 q e)))
        obtain ⟨D, rfl, hDb, hDl⟩ := own_some hO8 (by omega)
        have hRd := Rd.of_own hO8
        have hle := own_le hO8
        have hby : Bytes (encF t ++ more) := (layF_bytes hok _).append hmb
        have hg8 := heap_below hb8 hg6
        have hB8 := below_then hB6 hB6.size hb8
        clear hO7 hG7 hx7 hb7 hmr7 hms7 hO8 hG8 hx8 hb8 ho7 hba hRw7 hmr6 hg6 hB6 hms
        refine (dec_calls w8 D 0 (N + n1) c8 (encF t ++ more) hle.1 hle.2 hRd hDl hby).mono ?_
        rintro e w9 ⟨cs9, rfl, hK9, _, hb9⟩
        have hd := dec_enc hok HBD.out HMX.out more
        have hK9 := hK9 hd.1
        rw [hd.2.2.1] at hK9
        rw [hd.1, hd.2.1, HN.out, if_pos rfl]
        have hg9 := heap_below hb9 hg8
        have hB9 := below_then hB8 hB8.size hb9
        have hi9 := txK_size hK9
        obtain ⟨B1, d1, B2, d2, hcs9, _⟩ := txK_form hK9
        subst hcs9
        clear hd hRd hle hg8 hB8 hb9 hby
        go_upto_region 13 with fail
        have hba : Below w9.heap.size w9 (w9.alloc (.cells ([.int .i32 t.ver, .slice B1 t.ins.length d1, .slice B2 t.outs.length d2, .int .u32 t.lock]).toArray 35)) := (Below.refl _ _).alloc (Nat.le_refl _) _
        refine wp_gen (q := fun wi => wi.heap[w9.heap.size]? = some (.cells ([.int .i32 t.ver, .slice B1 t.ins.length d1, .slice B2 t.outs.length d2, .int .u32 t.lock]).toArray 35) ∧ wi.heap[w.heap.size]? = some (.cells cs.toArray 35) ∧ txK.K (fun b => w8.heap.size ≤ b) wi t [.int .i32 t.ver, .slice B1 t.ins.length d1, .slice B2 t.outs.length d2, .int .u32 t.lock] ∧ Below w.heap.size w wi) ⟨heap_alloc_new _ _, heap_below hba hg9, RK.K_below hK9 hba, below_then hB9 hB9.size hba⟩ (fun w10 hw => ?_)
        clear hba hg9 hK9 hB9
        obtain ⟨hx9, hg9, hK9, hB9⟩ := hw
        have hKt := RK.K_below hK hB9
        have r9 : w10.drew.rangeAt w9.heap.size 0 [.int .i32 t.ver, .slice B1 t.ins.length d1, .slice B2 t.outs.length d2, .int .u32 t.lock] := range_block (xs := [.int .i32 t.ver, .slice B1 t.ins.length d1, .slice B2 t.outs.length d2, .int .u32 t.lock]) hx9
        have r0 : w10.drew.rangeAt w.heap.size 0 cs := range_block hg9
        clear hx9 hg9
        refine wp_region_noPanic ?_
        refine wp_region_held_drew (S := fun w' => w'.rangeAt w9.heap.size 0 [.int .i32 t.ver, .slice B1 t.ins.length d1, .slice B2 t.outs.length d2, .int .u32 t.lock] ∧ w'.rangeAt w.heap.size 0 cs ∧ Below w10.heap.size w10 w') (by kernel_rfl) ⟨r9, r0, Below.drew (Below.refl _ _)⟩ (fun hHeld => ?_)
        -- 0: law.go:76 slot 65 := Op.move t12
        refine wpAnyH_take (i := 0) (oi := ⟨some 65, _, _, _, _, _⟩) (v := ?_) rfl (by kernel_rfl) (by kernel_rfl) (by kernel_rfl) (fun _ _ _ h => h) (Or.inl ⟨by rfl, ?_⟩) (by assumption) ?_
        rotate_left 1
        · intro w hSw; (try dsimp only at hSw); go_simp; try with_reducible rfl
        simp only [Act.put, List.setIfInBounds_toArray, List.set_cons_zero, List.set_cons_succ]
        -- 1: law.go:76 slot 66 := Op.binOp BinOp.eql 25 t65 (const (0:i64)) 25
        refine wpAnyH_take (i := 1) (oi := ⟨some 66, _, _, _, _, _⟩) (v := ?_) rfl (by kernel_rfl) (by kernel_rfl) (by kernel_rfl) (fun _ _ _ h => h) (Or.inl ⟨by rfl, ?_⟩) (by assumption) ?_
        rotate_left 1
        · intro w hSw; (try dsimp only at hSw); go_simp; try with_reducible rfl
        simp only [Act.put, List.setIfInBounds_toArray, List.set_cons_zero, List.set_cons_succ]
        -- 2: law.go:76 slot 67 := Op.move t66
        refine wpAnyH_take (i := 2) (oi := ⟨some 67, _, _, _, _, _⟩) (v := ?_) rfl (by kernel_rfl) (by kernel_rfl) (by kernel_rfl) (fun _ _ _ h => h) (Or.inl ⟨by rfl, ?_⟩) (by assumption) ?_
        rotate_left 1
        · intro w hSw; (try dsimp only at hSw); go_simp; try with_reducible rfl
        simp only [Act.put, List.setIfInBounds_toArray, List.set_cons_zero, List.set_cons_succ]
        -- 3: law.go:76 slot 68 := Op.move t11 [guarded: some (2, true)]
        refine wpAnyH_take (i := 3) (oi := ⟨some 68, _, _, _, _, _⟩) (v := ?_) rfl (by kernel_rfl) (by kernel_rfl) (by kernel_rfl) (fun _ _ _ h => h) (Or.inl ⟨by rfl, ?_⟩) (by assumption) ?_
        rotate_left 1
        · intro w hSw; (try dsimp only at hSw); go_simp; try with_reducible rfl
        simp only [Act.put, List.setIfInBounds_toArray, List.set_cons_zero, List.set_cons_succ]
        -- 4: law.go:76 slot 69 := Op.move t7 [guarded: some (2, true)]
        refine wpAnyH_take (i := 4) (oi := ⟨some 69, _, _, _, _, _⟩) (v := ?_) rfl (by kernel_rfl) (by kernel_rfl) (by kernel_rfl) (fun _ _ _ h => h) (Or.inl ⟨by rfl, ?_⟩) (by assumption) ?_
        rotate_left 1
        · intro w hSw; (try dsimp only at hSw); go_simp; try with_reducible rfl
        simp only [Act.put, List.setIfInBounds_toArray, List.set_cons_zero, List.set_cons_succ]
        -- 5: law.go:76 slot 70 := Op.call { builtin len, args := #[t69], argTypes := #[36] } [guarded: some (2, true)]
        refine wpAnyH_take (i := 5) (oi := ⟨some 70, _, _, _, _, _⟩) (v := ?_) rfl (by kernel_rfl) (by kernel_rfl) (by kernel_rfl) (fun _ _ _ h => h) (Or.inl ⟨by rfl, ?_⟩) (by assumption) ?_
        rotate_left 1
        · intro w hSw; (try dsimp only at hSw); go_simp; try with_reducible rfl
        simp only [Act.put, List.setIfInBounds_toArray, List.set_cons_zero, List.set_cons_succ]
        -- 6: law.go:76 slot 71 := Op.binOp BinOp.eql 3 t68 t70 3 [guarded: some (2, true)]
        refine wpAnyH_take (i := 6) (oi := ⟨some 71, _, _, _, _, _⟩) (v := ?_) rfl (by kernel_rfl) (by kernel_rfl) (by kernel_rfl) (fun _ _ _ h => h) (Or.inl ⟨by rfl, ?_⟩) (by assumption) ?_
        rotate_left 1
        · intro w hSw; (try dsimp only at hSw); go_simp; try with_reducible rfl
        simp only [Act.put, List.setIfInBounds_toArray, List.set_cons_zero, List.set_cons_succ]
        -- 7: law.go:76 slot 72 := Op.pick t67 t71 (const (Value.bool false))
        refine wpAnyH_take (i := 7) (oi := ⟨some 72, _, _, _, _, _⟩) (v := ?_) rfl (by kernel_rfl) (by kernel_rfl) (by kernel_rfl) (fun _ _ _ h => h) (Or.inl ⟨by rfl, ?_⟩) (by assumption) ?_
        rotate_left 1
        · intro w hSw; (try dsimp only at hSw); go_simp; try with_reducible rfl
        simp only [Act.put, List.setIfInBounds_toArray, List.set_cons_zero, List.set_cons_succ]
        -- 8: law.go:76 slot 73 := Op.move t72
        refine wpAnyH_take (i := 8) (oi := ⟨some 73, _, _, _, _, _⟩) (v := ?_) rfl (by kernel_rfl) (by kernel_rfl) (by kernel_rfl) (fun _ _ _ h => h) (Or.inl ⟨by rfl, ?_⟩) (by assumption) ?_
        rotate_left 1
        · intro w hSw; (try dsimp only at hSw); go_simp; try with_reducible rfl
        simp only [Act.put, List.setIfInBounds_toArray, List.set_cons_zero, List.set_cons_succ]
        -- 9: law.go:76 slot 74 := Op.load 35 t10 [guarded: some (8, true)]
        refine wpAnyH_take (i := 9) (oi := ⟨some 74, _, _, _, _, _⟩) rfl (by kernel_rfl) (by kernel_rfl) (by kernel_rfl) (fun _ _ _ h => h) (yieldsIf_load_mid (by rfl) _ _ rfl _ _ rfl ([.int .i32 t.ver, .slice B1 t.ins.length d1, .slice B2 t.outs.length d2, .int .u32 t.lock]) _ (fun _ h => h.1) hU rfl hi9) (by assumption) ?_
        simp only [Act.put, List.setIfInBounds_toArray, List.set_cons_zero, List.set_cons_succ]
        -- 11: law.go:76 slot 76 := Op.load 35 t2 [guarded: some (8, true)]
        refine wpAnyH_take (i := 11) (oi := ⟨some 76, _, _, _, _, _⟩) rfl (by kernel_rfl) (by kernel_rfl) (by kernel_rfl) (fun _ _ _ h => h) (yieldsIf_load_mid (by rfl) _ _ rfl _ _ rfl (cs) _ (fun _ h => h.2.1) hU rfl hi0) (by assumption) ?_
        simp only [Act.put, List.setIfInBounds_toArray, List.set_cons_zero, List.set_cons_succ]
        -- 10: law.go:76 slot 75 := Op.call { value (Operand.func 16), args := #[t74], argTypes := #[35] } [guarded: some (8, true)]
        refine wpAnyH_ready (rs := [10]) (by kernel_rfl) (by simp) ?_
        refine AllReadyH.cons (o := ⟨some 75, _, _, _, _, _⟩) rfl (fun K hK => ?_) AllReadyH.nil
        go_simp
        refine (plain_calls _ _ t [.int .i32 t.ver, .slice B1 t.ins.length d1, .slice B2 t.outs.length d2, .int .u32 t.lock] (RK.K_below hK9 hHeld.2.2) (by omega) (by omega)).mono ?_
        rintro e w11 ⟨csx, rfl, hKx, hbq⟩
        refine hK.out _ _ ⟨range_below hbq hHeld.1, range_below hbq hHeld.2.1, below_then hHeld.2.2 hHeld.2.2.size hbq⟩ (fun hHeld' => ?_)
        clear hHeld
        have hHeld := hHeld'
        clear hHeld'
        clear hK K
        try (simp only [Act.put, List.setIfInBounds_toArray, List.set_cons_zero, List.set_cons_succ])
        -- 12: law.go:76 slot 77 := Op.call { value (Operand.func 16), args := #[t76], argTypes := #[35] } [guarded: some (8, true)]
        refine wpAnyH_ready (rs := [12]) (by kernel_rfl) (by simp) ?_
        refine AllReadyH.cons (o := ⟨some 77, _, _, _, _, _⟩) rfl (fun K hK => ?_) AllReadyH.nil
        go_simp
        refine (plain_calls _ _ t cs (RK.K_below hKt hHeld.2.2) (by omega) (by omega)).mono ?_
        rintro e w12 ⟨csy, rfl, hKy, hbq⟩
        have hKx' := RK.K_below hKx hbq
        refine hK.out _ _ ⟨range_below hbq hHeld.1, range_below hbq hHeld.2.1, below_then hHeld.2.2 hHeld.2.2.size hbq⟩ (fun hHeld' => ?_)
        clear hHeld
        have hHeld := hHeld'
        clear hHeld'
        clear hK K
        try (simp only [Act.put, List.setIfInBounds_toArray, List.set_cons_zero, List.set_cons_succ])
        -- 13: law.go:76 slot 78 := Op.call { value (Operand.func 19), args := #[t75, t77], argTypes := #[46, 46] } [guarded: some (8, true)]
        refine wpAnyH_ready (rs := [13]) (by kernel_rfl) (by simp) ?_
        refine AllReadyH.cons (o := ⟨some 78, _, _, _, _, _⟩) rfl (fun K hK => ?_) AllReadyH.nil
        go_simp
        refine (same_calls _ _ _ t csx csy hKx' hKy).mono ?_
        rintro e w13 ⟨rfl, hbq⟩
        refine hK.out _ _ ⟨range_below hbq hHeld.1, range_below hbq hHeld.2.1, below_then hHeld.2.2 hHeld.2.2.size hbq⟩ (fun hHeld' => ?_)
        clear hHeld
        have hHeld := hHeld'
        clear hHeld'
        clear hK K
        try (simp only [Act.put, List.setIfInBounds_toArray, List.set_cons_zero, List.set_cons_succ])
        -- 14: law.go:76 slot 79 := Op.pick t73 t78 (const (Value.bool false))
        refine wpAnyH_take (i := 14) (oi := ⟨some 79, _, _, _, _, _⟩) (v := ?_) rfl (by kernel_rfl) (by kernel_rfl) (by kernel_rfl) (fun _ _ _ h => h) (Or.inl ⟨by rfl, ?_⟩) (by assumption) ?_
        rotate_left 1
        · intro w hSw; (try dsimp only at hSw); go_simp; try with_reducible rfl
        simp only [Act.put, List.setIfInBounds_toArray, List.set_cons_zero, List.set_cons_succ]
        -- 15: law.go:76 slot 4 := Op.assign t79
        refine wpAnyH_take (i := 15) (oi := ⟨some 4, _, _, _, _, _⟩) (v := ?_) rfl (by kernel_rfl) (by kernel_rfl) (by kernel_rfl) (fun _ _ _ h => h) (Or.inl ⟨by rfl, ?_⟩) (by assumption) ?_
        rotate_left 1
        · intro w hSw; (try dsimp only at hSw); go_simp; try with_reducible rfl
        simp only [Act.put, List.setIfInBounds_toArray, List.set_cons_zero, List.set_cons_succ]
        refine wpAnyH_done (by kernel_rfl) ?_ _
        refine NoPanic.normal ?_
        have hBf := below_then hB9 hB9.size hHeld.2.2
        clear hHeld
        go_wp2
        go_ret
        exact ⟨rfl, hBf⟩
      · obtain rfl := hE1 he
        have he' : (encErr t == 0) = false := by rw [beq_eq_false_iff_ne]; exact he
        have he'' : (encErr t != 0) = true := by rw [bne_iff_ne]; exact he
        have HE := Lib.hid he
        clear hE1 hE2 he
        go_wp2_with (first | ((with_reducible refine wpList_at 28 ?_); refine wpList_load_row rfl 35 (.tmp 2) rfl w.heap.size rfl 35 _ _ _ hg3 hU rfl hiA ?_))
        refine (plain_calls w3 _ t cs (RK.K_below hK hB3) (by omega) (by omega)).mono ?_
        rintro e w4 ⟨csp, rfl, hKp, hb4⟩
        have hB4 := below_then hB3 hB3.size hb4
        clear hg3 hB3 hb4
        go_wp2_with fail
        refine (renc_calls w4 _ t csp hKp).mono ?_
        rintro e w5 ⟨hF1, _, hb5⟩
        obtain rfl := hF1 HE.out
        have hB5 := below_then hB4 hB4.size hb5
        have kb := conv_rd (P := Try.prog) (w := w5) (src := 36) (dst := 9) (c := 0) Try.underlying36 Try.underlying5 Try.underlying9 (show Rd w5 none 0 (nums .u8 []) from Rd.nil _ _)
        clear hB4 hb5 hF1 hKp
        go_wp2
        go_ret
        exact ⟨rfl, hB5⟩
theorem came_u8 : Came Try.prog 5 (RK.int .u8) := came_int Try.underlying5 (by kernel_rfl)
/-! ### the row -/
open Go.ChangeShapes Go.WideShapes Go.ChangeAt
theorem own : ownKnob Try.prog.godebug = none := by kernel_rfl
theorem laidOut : laidOutB Try.prog = true := by kernel_rfl
theorem txWrites_lifted (os : Os) (started : os.Started) (H : Type) (enc : TypeId × Value → H) :
    ReturnsInHanded {} Try.checked os 5 .any (Rows.txWritesSpec.pre6 enc Try.prog Try.f5 Rows.txWritesRow.domain false) (Rows.txWritesSpec.post enc Try.prog Try.f5 false true false false) := by
  refine returnsInHanded_of_change (C := Try.checked) own started (by kernel_rfl) Try.func5
    (ChangeSpec.witness6 (enc := enc) (C := Try.checked) false ⟨#[], #[(.agg #[.int .i32 0, .slice none 0 0, .slice none 0 0, .int .u32 0]), .slice none 0 0], []⟩ 8 (by kernel_rfl) (by kernel_rfl) (by kernel_rfl) (by kernel_rfl)) ?_
  intro W base args ds gs before hval0 hW _ _
  have hval : ∀ (j : Nat) t v, Try.f5.params[j]? = some t → args[j]? = some v → Value.okWide Try.prog W .any base t v := hval0
  have hW' := hW
  obtain ⟨p, q, hA0, _, _, _, _⟩ := hW
  have hA : DataW.TrodAll enc Try.prog W 0 (fun _ => true) true Try.f5.params.toList args.toList ds p := hA0
  rw [Try.params5] at hA hval
  obtain ⟨v0, vs0, d0, ds0, p0, q0, hargs, rfl, rfl, h0, r0⟩ := trodAll_cons hA
  obtain ⟨v1, vs1, d1, ds1, p1, q1, rfl, rfl, rfl, h1, r1⟩ := trodAll_cons r0
  obtain ⟨rfl, rfl, rfl⟩ := trodAll_nil r1
  obtain rfl : args = #[v0, v1] := by cases args; simp_all
  obtain ⟨a0, cs0, rfl, w0⟩ := open_struct Try.underlying35 came_tx (hval 0 35 v0 rfl rfl) h0
  obtain ⟨A1, n1, c1, a1, rfl, k1, m1, w1⟩ := open_slice Try.underlying36 (by kernel_rfl) came_u8 (hval 1 36 v1 rfl rfl) h1
  refine (txWrites_walk W a0 cs0 w0 A1 n1 c1 a1 k1 m1 w1).mono fun e W' ⟨he, bel⟩ => ⟨_, he, ?_⟩
  exact law_post (tb := 4) laidOut (by kernel_rfl) Try.underlying4 rfl rfl (fun ds h => match ds, h with | [d0, d1], _ => rfl) hW' bel
theorem txWrites_over : Rows.txWritesRow.holds Try.pinned (OpenSpec.ofChange Rows.txWritesSpec) :=
  OpenClaim.holds_of_wide 5 Try.f5 rfl rfl rfl rfl rfl rfl rfl ⟨rfl, rfl, rfl, rfl, rfl⟩ rfl rfl rfl rfl rfl (by kernel_rfl) Try.func5 (by kernel_rfl)
    (of_decide_eq_true (by kernel_rfl)) (by unfold Func.isWrapper; first | (rw [if_pos (by decide +kernel)]; kernel_rfl) | (rw [if_neg (by decide +kernel)]; exact ⟨rfl, rfl⟩))
    (fun os started H enc _ => txWrites_lifted os started H enc)
theorem txWrites_holds : Rows.TxWritesSaid := txWrites_over
#print axioms txWrites_holds
end Go.Proofs.Ytjlkakggmfmfiaa
