/- The bytes of a transaction: tx.Tx.lay. -/
import Derived.Test.YtclkgflficlmiaaDoorLayOuts
set_option maxRecDepth 100000
set_option linter.unusedVariables false
namespace Go.Proofs.YtclkgflficlmiaaDoor
open Go Go.RowKit
/-- Bytes of the call's own are handed back. -/
def BytesOwn (w : World) (zs : List Int) (e : Ending) (w' : World) : Prop := ∃ A N c, e = .returned (.slice A N c) ∧ w'.ownsRow w.heap.size 5 1 (.slice A N c) N (nums .u8 zs) ∧ Below w.heap.size w w'
set_option maxHeartbeats 4000000 in
theorem lay_true (w : World) (S : Nat → Prop) (t : TTx) (A1 : Option Addr) (n1 k1 : Nat) (A2 : Option Addr) (n2 k2 : Nat) (hv0 : -2147483648 ≤ t.ver) (hv1 : t.ver ≤ 2147483647) (hl0 : 0 ≤ t.lock) (hl1 : t.lock ≤ 4294967295) (h1 : n1 ≤ k1) (h2 : k1 ≤ maxLen) (h3 : n2 ≤ k2) (h4 : k2 ≤ maxLen)
    (hI : inK.C S w A1 n1 t.ins) (hO : outK.C S w A2 n2 t.outs) (hlen : (layF t true).length ≤ 9000000000) :
    Calls Tryd.prog 56 #[.agg #[.int .i32 t.ver, .slice A1 n1 k1, .slice A2 n2 k2, .int .u32 t.lock], .bool true] w (BytesOwn w (layF t true)) := by
  have hil := hI.len
  have hol := hO.len
  obtain ⟨V, hV⟩ : ∃ V, V = (t.ver % 4294967296).toNat := ⟨_, rfl⟩
  have hVl : V < 4294967296 := by omega
  have hwr : IntKind.u32.wrap t.ver = (V : Int) := by rw [IntKind.wrap_u32]; omega
  have hwl : IntKind.u64.wrap t.lock = t.lock := by rw [IntKind.wrap_u64]; omega
  have hlay : layF t true = leF 4 V ++ [0, 1] ++ compF n1 ++ t.ins.flatMap layIn ++ compF n2 ++ t.outs.flatMap layOut ++ t.ins.flatMap layWit ++ leF 4 t.lock.toNat := by simp only [layF, ← hV, hil, hol, if_true]
  rw [hlay] at hlen ⊢
  have hlen' := hlen
  simp only [List.length_append, leF_length] at hlen'
  unfold maxLen at h2 h4
  have hn1 : (n1 : Int) ≤ 9223372036854775807 := by omega
  have hn2 : (n2 : Int) ≤ 9223372036854775807 := by omega
  have HN1 : Hid (n1 < 18446744073709551616) := Lib.hid (by omega)
  have HN2 : Hid (n2 < 18446744073709551616) := Lib.hid (by omega)
  have HLEN := Lib.hid hlen
  have HIL := Lib.hid hil
  have HOL := Lib.hid hol
  have HV := Lib.hid hV
  have hb0 : Below w.heap.size w (w.alloc (.cells #[.int .i32 t.ver, .slice A1 n1 k1, .slice A2 n2 k2, .int .u32 t.lock] 54)) := (Below.refl _ _).alloc (Nat.le_refl _) _
  have hg0 := heap_alloc_new w (.cells #[.int .i32 t.ver, .slice A1 n1 k1, .slice A2 n2 k2, .int .u32 t.lock] 54)
  have hs0 : (w.alloc (.cells #[.int .i32 t.ver, .slice A1 n1 k1, .slice A2 n2 k2, .int .u32 t.lock] 54)).heap.size = w.heap.size + 1 := by simp
  have HS0 := Lib.hid hs0
  clear hlay hlen hil hol hV hs0
  go_enter Tryd.func56, Tryd.ntmps56
  go_upto_region 1 with fail
  refine wp_gen (q := fun wi => wi.heap.size = w.heap.size + 1 ∧ Below w.heap.size w wi ∧ wi.heap[w.heap.size]? = some (.cells #[.int .i32 t.ver, .slice A1 n1 k1, .slice A2 n2 k2, .int .u32 t.lock] 54)) ⟨HS0.out, hb0, hg0⟩ (fun w0 hw => ?_)
  clear hb0 hg0
  obtain ⟨hs0, hb0, hg0⟩ := hw
  have HS := Lib.hid hs0
  clear hs0
  have t0 : w0.cell? ⟨w.heap.size, 0, none⟩ = some (.int .i32 t.ver) := blk_cell hg0 rfl
  have t1 : w0.cell? ⟨w.heap.size, 1, none⟩ = some (.slice A1 n1 k1) := blk_cell hg0 rfl
  have t2 : w0.cell? ⟨w.heap.size, 2, none⟩ = some (.slice A2 n2 k2) := blk_cell hg0 rfl
  have t3 : w0.cell? ⟨w.heap.size, 3, none⟩ = some (.int .u32 t.lock) := blk_cell hg0 rfl
  have hI0 := RK.C.below hI hb0
  have hO0 := RK.C.below hO hb0
  have hlt0 := heap_lt hg0
  have hn0 : w0.ownsRow w0.heap.size 5 1 (.slice none 0 0) 0 (nums .u8 []) := World.ownsRow_nil _ _ _ _
  clear hg0 hI hO
  go_wp2_with fail
  refine (put_calls w0 w0.heap.size none 0 0 [] V 4 (by omega) (by decide) (by decide) (Nat.le_refl _) hn0 _ rfl _ rfl 4 (leF 4 V) rfl rfl).mono ?_
  rintro e w1 ⟨A5, c5, rfl, ho1, hg1, hx1⟩
  have b1 : Below w0.heap.size w0 w1 := (Below.refl _ _).grown hg1 (Nat.le_refl _) (fun k hk => by simp [Value.ownBlock] at hk)
  have t11 := cell_below b1 t1
  have hs1 := b1.size
  clear hg1 hx1 hn0 t0 hwr
  have hoa := World.ownsRow.alloc ho1 (.cells #[.int .u8 0, .int .u8 1] 5)
  have hba : Below w0.heap.size w0 (w1.alloc (.cells #[.int .u8 0, .int .u8 1] 5)) := b1.alloc b1.size _
  go_upto_region 4 with (first | (refine wpList_appN rfl (.tmp 20) (.tmp 21) 22 rfl w0.heap.size 5 _ 1 Tryd.underlying22 infoU8 rfl (.slice A5 4 c5) 4 (nums .u8 (leF 4 V)) rfl hoa (some ⟨w1.heap.size, 0, none⟩) 2 2 (nums .u8 [0, 1]) rfl (Rd.of_block0 (heap_alloc_new _ _)) (nums_one _ _) 6 (nums .u8 (leF 4 V ++ [0, 1])) rfl (nums_append _ _ _).symm (by decide) (by decide) (by simp; omega) ?_; intro A6 c6 w2 ho2 hg2 hat2))
  have b2 : Below w0.heap.size w0 w2 := hba.grown hg2 (by simp; omega) (fun k hk => own_base ho1 k hk)
  have t12 := cell_below b2 t1
  have hs2 := b2.size
  clear hg2 hat2 hoa hba ho1 b1 t11
  go_wp2_with fail
  refine (comp_calls w2 w0.heap.size A6 6 c6 (leF 4 V ++ [0, 1]) n1 HN1 (by decide) hs2 ho2 (6 + (compF n1).length) (leF 4 V ++ [0, 1] ++ compF n1) rfl rfl).mono ?_
  rintro e w3 ⟨A7, c7, rfl, ho3, hg3, hx3⟩
  have b3 : Below w0.heap.size w0 w3 := b2.grown hg3 hs2 (fun k hk => own_base ho2 k hk)
  have t13 := cell_below b3 t1
  clear hg3 hx3 ho2 b2 t12
  go_upto_block 0 with fail
  refine lay_ins w0 w3 S A7 _ c7 (leF 4 V ++ [0, 1] ++ compF n1) A1 n1 k1 t.ins h1 (by unfold maxLen; exact h2) hI0 (by have := HLEN.out; simp only [List.length_append, leF_length] at this ⊢; omega) b3 ho3 _ ?_
  intro x7 x32 x33 x34 x35 x36 x37 x38 x39 x40 x41 x42 x43 x44 x45 x46 x47 x48 x49 x50 x51 x52 x53 x54 A8 L8 c8 w4 ho4 b4
  have hL8 := own_len ho4
  have hL8b : L8 ≤ 9000000000 := by have := HLEN.out; rw [← hL8]; simp only [List.length_append, leF_length] at this ⊢; omega
  have t24 := cell_below b4 t2
  have hs4 := b4.size
  have HL8 := Lib.hid hL8
  clear ho3 b3 t13 hL8
  go_wp2_with fail
  refine (comp_calls w4 w0.heap.size A8 L8 c8 (leF 4 V ++ [0, 1] ++ compF n1 ++ t.ins.flatMap layIn) n2 HN2 (by omega) hs4 ho4 (L8 + (compF n2).length) (leF 4 V ++ [0, 1] ++ compF n1 ++ t.ins.flatMap layIn ++ compF n2) rfl rfl).mono ?_
  rintro e w5 ⟨A9, c9, rfl, ho5, hg5, hx5⟩
  have b5 : Below w0.heap.size w0 w5 := b4.grown hg5 hs4 (fun k hk => own_base ho4 k hk)
  have t25 := cell_below b5 t2
  clear hg5 hx5 ho4 b4 t24
  go_upto_block 2 with fail
  refine lay_outs w0 w5 S A9 _ c9 (leF 4 V ++ [0, 1] ++ compF n1 ++ t.ins.flatMap layIn ++ compF n2) A2 n2 k2 t.outs h3 (by unfold maxLen; exact h4) hO0 (by have := HLEN.out; simp only [List.length_append, leF_length] at this ⊢; omega) b5 ho5 _ ?_
  intro x9 x64 x65 x66 x67 x68 x69 x70 x71 x72 x73 x74 x75 x76 A10 L10 c10 w6 ho6 b6
  have t16 := cell_below b6 t1
  have hs6 := b6.size
  clear ho5 b5 t25
  go_upto_block 4 with fail
  refine lay_wits w0 w6 S A10 _ c10 (leF 4 V ++ [0, 1] ++ compF n1 ++ t.ins.flatMap layIn ++ compF n2 ++ t.outs.flatMap layOut) A1 n1 k1 t.ins h1 (by unfold maxLen; exact h2) hI0 (by have := HLEN.out; simp only [List.length_append, leF_length] at this ⊢; omega) b6 ho6 _ ?_
  intro x11 x13 x81 x82 x83 x84 x85 x86 x87 x88 x89 x90 x91 x92 x93 x94 x95 x96 x97 x98 x99 x100 x101 x102 A11 L11 c11 w7 ho7 b7
  have t37 := cell_below b7 t3
  have hs7 := b7.size
  have hL11 := own_len ho7
  have hL11b : L11 ≤ 9000000000 := by have := HLEN.out; rw [← hL11]; simp only [List.length_append, leF_length] at this ⊢; omega
  have HL11 := Lib.hid hL11
  clear ho6 b6 t16 hL11
  go_wp2_with fail
  refine (put_calls w7 w0.heap.size A11 L11 c11 (leF 4 V ++ [0, 1] ++ compF n1 ++ t.ins.flatMap layIn ++ compF n2 ++ t.outs.flatMap layOut ++ t.ins.flatMap layWit) t.lock.toNat 4 (by omega) (by decide) (by omega) hs7 ho7 _ rfl _ (by omega) (L11 + 4) ((leF 4 V ++ [0, 1] ++ compF n1 ++ t.ins.flatMap layIn ++ compF n2 ++ t.outs.flatMap layOut ++ t.ins.flatMap layWit) ++ leF 4 t.lock.toNat) rfl rfl).mono ?_
  rintro e w8 ⟨A12, c12, rfl, ho8, hg8, hx8⟩
  have b8 : Below w0.heap.size w0 w8 := b7.grown hg8 hs7 (fun k hk => own_base ho7 k hk)
  have bf : Below w.heap.size w w8 := hb0.trans (b8.mono (by have := HS.out; omega))
  clear hg8 hx8 ho7 b7 t37 t1 t2 t3 b8 hb0 hwl
  go_wp2
  go_ret
  exact ⟨A12, _, c12, rfl, own_mono ho8 (by have := HS.out; omega), bf⟩
set_option maxHeartbeats 4000000 in
theorem lay_false (w : World) (S : Nat → Prop) (t : TTx) (A1 : Option Addr) (n1 k1 : Nat) (A2 : Option Addr) (n2 k2 : Nat) (hv0 : -2147483648 ≤ t.ver) (hv1 : t.ver ≤ 2147483647) (hl0 : 0 ≤ t.lock) (hl1 : t.lock ≤ 4294967295) (h1 : n1 ≤ k1) (h2 : k1 ≤ maxLen) (h3 : n2 ≤ k2) (h4 : k2 ≤ maxLen)
    (hI : inK.C S w A1 n1 t.ins) (hO : outK.C S w A2 n2 t.outs) (hlen : (layF t false).length ≤ 9000000000) :
    Calls Tryd.prog 56 #[.agg #[.int .i32 t.ver, .slice A1 n1 k1, .slice A2 n2 k2, .int .u32 t.lock], .bool false] w (BytesOwn w (layF t false)) := by
  have hil := hI.len
  have hol := hO.len
  obtain ⟨V, hV⟩ : ∃ V, V = (t.ver % 4294967296).toNat := ⟨_, rfl⟩
  have hVl : V < 4294967296 := by omega
  have hwr : IntKind.u32.wrap t.ver = (V : Int) := by rw [IntKind.wrap_u32]; omega
  have hwl : IntKind.u64.wrap t.lock = t.lock := by rw [IntKind.wrap_u64]; omega
  have hlay : layF t false = leF 4 V ++ compF n1 ++ t.ins.flatMap layIn ++ compF n2 ++ t.outs.flatMap layOut ++ leF 4 t.lock.toNat := by simp only [layF, ← hV, hil, hol, Bool.false_eq_true, if_false, List.append_nil]
  rw [hlay] at hlen ⊢
  have hlen' := hlen
  simp only [List.length_append, leF_length] at hlen'
  unfold maxLen at h2 h4
  have hn1 : (n1 : Int) ≤ 9223372036854775807 := by omega
  have hn2 : (n2 : Int) ≤ 9223372036854775807 := by omega
  have HN1 : Hid (n1 < 18446744073709551616) := Lib.hid (by omega)
  have HN2 : Hid (n2 < 18446744073709551616) := Lib.hid (by omega)
  have HLEN := Lib.hid hlen
  have HIL := Lib.hid hil
  have HOL := Lib.hid hol
  have HV := Lib.hid hV
  have hb0 : Below w.heap.size w (w.alloc (.cells #[.int .i32 t.ver, .slice A1 n1 k1, .slice A2 n2 k2, .int .u32 t.lock] 54)) := (Below.refl _ _).alloc (Nat.le_refl _) _
  have hg0 := heap_alloc_new w (.cells #[.int .i32 t.ver, .slice A1 n1 k1, .slice A2 n2 k2, .int .u32 t.lock] 54)
  have hs0 : (w.alloc (.cells #[.int .i32 t.ver, .slice A1 n1 k1, .slice A2 n2 k2, .int .u32 t.lock] 54)).heap.size = w.heap.size + 1 := by simp
  have HS0 := Lib.hid hs0
  clear hlay hlen hil hol hV hs0
  go_enter Tryd.func56, Tryd.ntmps56
  go_upto_region 1 with fail
  refine wp_gen (q := fun wi => wi.heap.size = w.heap.size + 1 ∧ Below w.heap.size w wi ∧ wi.heap[w.heap.size]? = some (.cells #[.int .i32 t.ver, .slice A1 n1 k1, .slice A2 n2 k2, .int .u32 t.lock] 54)) ⟨HS0.out, hb0, hg0⟩ (fun w0 hw => ?_)
  clear hb0 hg0
  obtain ⟨hs0, hb0, hg0⟩ := hw
  have HS := Lib.hid hs0
  clear hs0
  have t0 : w0.cell? ⟨w.heap.size, 0, none⟩ = some (.int .i32 t.ver) := blk_cell hg0 rfl
  have t1 : w0.cell? ⟨w.heap.size, 1, none⟩ = some (.slice A1 n1 k1) := blk_cell hg0 rfl
  have t2 : w0.cell? ⟨w.heap.size, 2, none⟩ = some (.slice A2 n2 k2) := blk_cell hg0 rfl
  have t3 : w0.cell? ⟨w.heap.size, 3, none⟩ = some (.int .u32 t.lock) := blk_cell hg0 rfl
  have hI0 := RK.C.below hI hb0
  have hO0 := RK.C.below hO hb0
  have hlt0 := heap_lt hg0
  have hn0 : w0.ownsRow w0.heap.size 5 1 (.slice none 0 0) 0 (nums .u8 []) := World.ownsRow_nil _ _ _ _
  clear hg0 hI hO
  go_wp2_with fail
  refine (put_calls w0 w0.heap.size none 0 0 [] V 4 (by omega) (by decide) (by decide) (Nat.le_refl _) hn0 _ rfl _ rfl 4 (leF 4 V) rfl rfl).mono ?_
  rintro e w1 ⟨A5, c5, rfl, ho1, hg1, hx1⟩
  have b1 : Below w0.heap.size w0 w1 := (Below.refl _ _).grown hg1 (Nat.le_refl _) (fun k hk => by simp [Value.ownBlock] at hk)
  have t11 := cell_below b1 t1
  have hs1 := b1.size
  clear hg1 hx1 hn0 t0 hwr
  go_wp2_with fail
  refine (comp_calls w1 w0.heap.size A5 4 c5 (leF 4 V) n1 HN1 (by decide) hs1 ho1 (4 + (compF n1).length) (leF 4 V ++ compF n1) rfl rfl).mono ?_
  rintro e w3 ⟨A7, c7, rfl, ho3, hg3, hx3⟩
  have b3 : Below w0.heap.size w0 w3 := b1.grown hg3 hs1 (fun k hk => own_base ho1 k hk)
  have t13 := cell_below b3 t1
  clear hg3 hx3 ho1 b1 t11
  go_upto_block 0 with fail
  refine lay_ins w0 w3 S A7 _ c7 (leF 4 V ++ compF n1) A1 n1 k1 t.ins h1 (by unfold maxLen; exact h2) hI0 (by have := HLEN.out; simp only [List.length_append, leF_length] at this ⊢; omega) b3 ho3 _ ?_
  intro x7 x32 x33 x34 x35 x36 x37 x38 x39 x40 x41 x42 x43 x44 x45 x46 x47 x48 x49 x50 x51 x52 x53 x54 A8 L8 c8 w4 ho4 b4
  have hL8 := own_len ho4
  have hL8b : L8 ≤ 9000000000 := by have := HLEN.out; rw [← hL8]; simp only [List.length_append, leF_length] at this ⊢; omega
  have t24 := cell_below b4 t2
  have hs4 := b4.size
  have HL8 := Lib.hid hL8
  clear ho3 b3 t13 hL8
  go_wp2_with fail
  refine (comp_calls w4 w0.heap.size A8 L8 c8 (leF 4 V ++ compF n1 ++ t.ins.flatMap layIn) n2 HN2 (by omega) hs4 ho4 (L8 + (compF n2).length) (leF 4 V ++ compF n1 ++ t.ins.flatMap layIn ++ compF n2) rfl rfl).mono ?_
  rintro e w5 ⟨A9, c9, rfl, ho5, hg5, hx5⟩
  have b5 : Below w0.heap.size w0 w5 := b4.grown hg5 hs4 (fun k hk => own_base ho4 k hk)
  have t25 := cell_below b5 t2
  clear hg5 hx5 ho4 b4 t24
  go_upto_block 2 with fail
  refine lay_outs w0 w5 S A9 _ c9 (leF 4 V ++ compF n1 ++ t.ins.flatMap layIn ++ compF n2) A2 n2 k2 t.outs h3 (by unfold maxLen; exact h4) hO0 (by have := HLEN.out; simp only [List.length_append, leF_length] at this ⊢; omega) b5 ho5 _ ?_
  intro x9 x64 x65 x66 x67 x68 x69 x70 x71 x72 x73 x74 x75 x76 A10 L10 c10 w6 ho6 b6
  have t16 := cell_below b6 t1
  have hs6 := b6.size
  clear ho5 b5 t25
  have t37 := cell_below b6 t3
  have hL11 := own_len ho6
  have hL11b : L10 ≤ 9000000000 := by have := HLEN.out; rw [← hL11]; simp only [List.length_append, leF_length] at this ⊢; omega
  have HL11 := Lib.hid hL11
  clear t16 hL11
  go_wp2_with fail
  refine (put_calls w6 w0.heap.size A10 L10 c10 (leF 4 V ++ compF n1 ++ t.ins.flatMap layIn ++ compF n2 ++ t.outs.flatMap layOut) t.lock.toNat 4 (by omega) (by decide) (by omega) hs6 ho6 _ rfl _ (by omega) (L10 + 4) ((leF 4 V ++ compF n1 ++ t.ins.flatMap layIn ++ compF n2 ++ t.outs.flatMap layOut) ++ leF 4 t.lock.toNat) rfl rfl).mono ?_
  rintro e w8 ⟨A12, c12, rfl, ho8, hg8, hx8⟩
  have b8 : Below w0.heap.size w0 w8 := b6.grown hg8 hs6 (fun k hk => own_base ho6 k hk)
  have bf : Below w.heap.size w w8 := hb0.trans (b8.mono (by have := HS.out; omega))
  clear hg8 hx8 ho6 b6 t37 t1 t2 t3 b8 hb0 hwl
  go_wp2
  go_ret
  exact ⟨A12, _, c12, rfl, own_mono ho8 (by have := HS.out; omega), bf⟩
theorem lay_calls (w : World) (S : Nat → Prop) (t : TTx) (cs : List Value) (hK : txK.K S w t cs) (wit : Bool) (hlen : (layF t wit).length ≤ 9000000000) :
    Calls Tryd.prog 56 #[.agg cs.toArray, .bool wit] w (BytesOwn w (layF t wit)) := by
  obtain ⟨A1, n1, k1, A2, n2, k2, rfl, ⟨hv0, hv1⟩, ⟨hl0, hl1⟩, h1, h2, h3, h4, hI, hO⟩ := hK
  cases wit
  · exact lay_false w S t A1 n1 k1 A2 n2 k2 hv0 hv1 hl0 hl1 h1 h2 h3 h4 hI hO hlen
  · exact lay_true w S t A1 n1 k1 A2 n2 k2 hv0 hv1 hl0 hl1 h1 h2 h3 h4 hI hO hlen
end Go.Proofs.YtclkgflficlmiaaDoor
