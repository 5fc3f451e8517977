/- The bytes of a transaction: what is of the outputs, and of the witnesses. -/
import Derived.Test.YtclkgflficlmiaaDoorLayIns
import Derived.Deep.RegionHeld3
import Derived.Deep.CutBlock
set_option maxRecDepth 100000
set_option linter.unusedVariables false
namespace Go.Proofs.YtclkgflficlmiaaDoor
open Go Go.RowKit
noncomputable def layB2 : Code := ((Tryd.f56.body.bind (findBk 2)).getD .skip)
set_option maxHeartbeats 4000000 in
theorem lay_outs {u0 u1 u2 u3 u4 u6 u7 u8 u9 u10 u11 u12 u13 u14 u15 u16 u17 u18 u19 u20 u21 u22 u23 u24 u25 u26 u27 u28 u29 u30 u31 u32 u33 u34 u35 u36 u37 u38 u39 u40 u41 u42 u43 u44 u45 u46 u47 u48 u49 u50 u51 u52 u53 u54 u55 u56 u57 u58 u59 u60 u61 u65 u66 u67 u68 u69 u70 u71 u72 u73 u74 u75 u76 u77 u78 u79 u80 u81 u82 u83 u84 u85 u86 u87 u88 u89 u90 u91 u92 u93 u94 u95 u96 u97 u98 u99 u100 u101 u102 u103 u104 u105 u106 u107 : Value} (w0 wr0 : World) (S : Nat → Prop) (A0 : Option Addr) (L0 c0 : Nat) (q0 : List Int) (A1 : Option Addr) (n1 k1 : Nat) (outs : List TOut) (hn1 : n1 ≤ k1) (hk1 : k1 ≤ maxLen)
    (hI : outK.C S w0 A1 n1 outs) (hlen : (q0 ++ outs.flatMap layOut).length ≤ 10000000000) (hb0 : Below w0.heap.size w0 wr0) (ho0 : wr0.ownsRow w0.heap.size 5 1 (.slice A0 L0 c0) L0 (nums .u8 q0)) (Q0 : Exit → Act → World → Prop)
    (hexit : ∀ x9 x64 x65 x66 x67 x68 x69 x70 x71 x72 x73 x74 x75 x76 A' L' c' w', w'.ownsRow w0.heap.size 5 1 (.slice A' L' c') L' (nums .u8 (q0 ++ outs.flatMap layOut)) → Below w0.heap.size w0 w' → Q0 .normal ⟨#[u0, u1, u2, u3, u4, (.slice A' L' c'), u6, u7, u8, x9, u10, u11, u12, u13, u14, u15, u16, u17, u18, u19, u20, u21, u22, u23, u24, u25, u26, u27, u28, u29, u30, u31, u32, u33, u34, u35, u36, u37, u38, u39, u40, u41, u42, u43, u44, u45, u46, u47, u48, u49, u50, u51, u52, u53, u54, u55, u56, u57, u58, u59, u60, u61, .slice A1 n1 k1, .int .i64 n1, x64, x65, x66, x67, x68, x69, x70, x71, x72, x73, x74, x75, x76, u77, u78, u79, u80, u81, u82, u83, u84, u85, u86, u87, u88, u89, u90, u91, u92, u93, u94, u95, u96, u97, u98, u99, u100, u101, u102, u103, u104, u105, u106, u107], []⟩ w') :
    Code.wp Tryd.prog layB2 Q0 ⟨#[u0, u1, u2, u3, u4, .slice A0 L0 c0, u6, u7, u8, u9, u10, u11, u12, u13, u14, u15, u16, u17, u18, u19, u20, u21, u22, u23, u24, u25, u26, u27, u28, u29, u30, u31, u32, u33, u34, u35, u36, u37, u38, u39, u40, u41, u42, u43, u44, u45, u46, u47, u48, u49, u50, u51, u52, u53, u54, u55, u56, u57, u58, u59, u60, u61, .slice A1 n1 k1, .int .i64 n1, .int .i64 0, u65, u66, u67, u68, u69, u70, u71, u72, u73, u74, u75, u76, u77, u78, u79, u80, u81, u82, u83, u84, u85, u86, u87, u88, u89, u90, u91, u92, u93, u94, u95, u96, u97, u98, u99, u100, u101, u102, u103, u104, u105, u106, u107], []⟩ wr0 := by
  have HE := Lib.hid hexit
  clear hexit
  unfold maxLen at hk1
  have hln := hI.len
  have HLN := Lib.hid hln
  have HLEN := Lib.hid hlen
  clear hln hlen
  have h0 : wr0.ownsRow w0.heap.size 5 1 (.slice A0 L0 c0) L0 (nums .u8 (q0 ++ (outs.take 0).flatMap layOut)) := by simpa using ho0
  clear ho0
  conv => arg 2; whnf
  go_wp2
  go_loopw [5, 64] (fun v5 v64 wr => ∃ (k : Nat) (A5 : Option Addr) (L c5 : Nat), k ≤ n1 ∧ v64 = .int .i64 k ∧ v5 = .slice A5 L c5 ∧ wr.ownsRow w0.heap.size 5 1 (.slice A5 L c5) L (nums .u8 (q0 ++ (outs.take k).flatMap layOut)) ∧ Below w0.heap.size w0 wr) (fun _ v _ => n1 - (intOf v).toNat)
  case atStart => exact ⟨0, A0, L0, c0, by omega, rfl, rfl, h0, hb0⟩
  case round =>
    clear h0 hb0
    obtain ⟨k, A5, L, c5, hk, rfl, rfl, hO, hB⟩ := hrel
    by_cases hlt : k < n1
    · have hlt' : (k : Int) < (n1 : Int) := by omega
      have hkk : (0 : Int) ≤ (k : Int) := by omega
      obtain ⟨b, o, x, hA1, hx, hc1, hc2, hok⟩ := out_at (RK.C.below hI hB) k hlt
      have hfl := take_flat layOut outs k x hx
      have hle := take_flat_le layOut outs (k + 1)
      obtain ⟨q, hq⟩ : ∃ q, q = q0 ++ (outs.take k).flatMap layOut := ⟨_, rfl⟩
      rw [← hq] at hO
      have hqL := own_len hO
      have hsc : x.script.size ≤ 10000000000 ∧ L + 8 + (textF x.script).length ≤ 10000000000 := by
        have h1 := HLEN.out
        rw [hfl] at hle
        simp only [List.length_append, layOut, leF_length] at hle h1
        rw [hq, List.length_append] at hqL
        have h2 := textF_length x.script
        omega
      obtain ⟨cz, hcz⟩ : ∃ cz, cz = (x.coins % 18446744073709551616).toNat := ⟨_, rfl⟩
      have hwc : IntKind.u64.wrap x.coins = (cz : Int) := by rw [IntKind.wrap_u64, hcz]; omega
      have hczl : Hid (cz < 18446744073709551616) := Lib.hid (by rw [hcz]; omega)
      have HN : Hid (q0 ++ (outs.take (k + 1)).flatMap layOut = q ++ leF 8 cz ++ textF x.script) := Lib.hid (by rw [hfl, hq, layOut, ← hcz]; simp only [List.append_assoc])
      obtain ⟨hsc1, hsc2⟩ := hsc
      have HQ := Lib.hid hq
      have HX := Lib.hid hx
      have HQL := Lib.hid hqL
      have HCZ := Lib.hid hcz
      have hsr := hB.size
      have hoa := World.ownsRow.alloc hO (.cells #[.int .i64 x.coins, .string x.script] 62)
      have hba : Below w0.heap.size w0 (wr.alloc (.cells #[.int .i64 x.coins, .string x.script] 62)) := hB.alloc hB.size _
      have hga := heap_alloc_new wr (.cells #[.int .i64 x.coins, .string x.script] 62)
      have hgo : some wr.heap.size ≠ (Value.slice A5 L c5).ownBlock := fun e => by have := (hO.lt _ e.symm).2; omega
      have hlo : Hid (∀ q, (Value.slice A5 L c5).ownBlock = some q → w0.heap.size ≤ q) := Lib.hid fun q hq => own_base hO q hq
      subst hA1
      clear hq hx hqL hfl hle hcz hO hB
      go_upto_region 15 with fail
      refine wp_gen (q := fun wi => wi.heap[wr.heap.size]? = some (.cells #[.int .i64 x.coins, .string x.script] 62) ∧ wi.ownsRow w0.heap.size 5 1 (.slice A5 L c5) L (nums .u8 q) ∧ Below w0.heap.size w0 wi) ⟨hga, hoa, hba⟩ (fun w2 hw => ?_)
      clear hga hoa hba
      obtain ⟨g2, hO2, hB2⟩ := hw
      have t1 : w2.cell? ⟨wr.heap.size, 0, none⟩ = some (.int .i64 x.coins) := blk_cell g2 rfl
      have t2 : w2.cell? ⟨wr.heap.size, 1, none⟩ = some (.string x.script) := blk_cell g2 rfl
      have hs2 := hB2.size
      clear g2 hc1 hc2
      refine wp_region_noPanic ?_
      refine wp_region_held_drew (S := fun w' => w'.cell? ⟨wr.heap.size, 0, none⟩ = some (.int .i64 x.coins) ∧ w'.cell? ⟨wr.heap.size, 1, none⟩ = some (.string x.script) ∧ w2.grownBy w' (Value.slice A5 L c5).ownBlock) (by kernel_rfl) ⟨t1, t2, grown_of_below (Below.drew (Below.refl _ _)) _⟩ (fun hHeld => ?_)
      -- 0: tx.go:108 slot 68 := Op.move t5
      refine wpAnyH_take (i := 0) (oi := ⟨some 68, _, _, _, _, _⟩) (v := ?_) rfl (by kernel_rfl) (by kernel_rfl) (by kernel_rfl) (fun _ _ _ h => h) (Or.inl ⟨by rfl, ?_⟩) (by assumption) ?_
      rotate_left 1
      · intro w hSw; (try dsimp only at hSw); go_simp; try with_reducible rfl
      simp only [Act.put, List.setIfInBounds_toArray, List.set_cons_zero, List.set_cons_succ]
      -- 1: tx.go:108 slot 69 := Op.fieldAddr 75 t9 0
      refine wpAnyH_take (i := 1) (oi := ⟨some 69, _, _, _, _, _⟩) (v := ?_) rfl (by kernel_rfl) (by kernel_rfl) (by kernel_rfl) (fun _ _ _ h => h) (Or.inl ⟨by rfl, ?_⟩) (by assumption) ?_
      rotate_left 1
      · intro w hSw; (try dsimp only at hSw); go_simp; try with_reducible rfl
      simp only [Act.put, List.setIfInBounds_toArray, List.set_cons_zero, List.set_cons_succ]
      -- 2: tx.go:108 slot 70 := Op.load 2 t69
      refine wpAnyH_take (i := 2) (oi := ⟨some 70, _, _, _, _, _⟩) (v := ?_) rfl (by kernel_rfl) (by kernel_rfl) (by kernel_rfl) (fun _ _ _ h => h) (Or.inl ⟨by rfl, ?_⟩) (by assumption) ?_
      rotate_left 1
      · intro w hSw; (try dsimp only at hSw); go_simp; try with_reducible rfl
      simp only [Act.put, List.setIfInBounds_toArray, List.set_cons_zero, List.set_cons_succ]
      -- 3: tx.go:108 slot 71 := Op.convert 2 56 t70
      refine wpAnyH_take (i := 3) (oi := ⟨some 71, _, _, _, _, _⟩) (v := ?_) rfl (by kernel_rfl) (by kernel_rfl) (by kernel_rfl) (fun _ _ _ h => h) (Or.inl ⟨by rfl, ?_⟩) (by assumption) ?_
      rotate_left 1
      · intro w hSw; (try dsimp only at hSw); go_simp; try with_reducible rfl
      simp only [Act.put, List.setIfInBounds_toArray, List.set_cons_zero, List.set_cons_succ]
      -- 5: tx.go:108 slot 73 := Op.fieldAddr 75 t9 1
      refine wpAnyH_take (i := 5) (oi := ⟨some 73, _, _, _, _, _⟩) (v := ?_) rfl (by kernel_rfl) (by kernel_rfl) (by kernel_rfl) (fun _ _ _ h => h) (Or.inl ⟨by rfl, ?_⟩) (by assumption) ?_
      rotate_left 1
      · intro w hSw; (try dsimp only at hSw); go_simp; try with_reducible rfl
      simp only [Act.put, List.setIfInBounds_toArray, List.set_cons_zero, List.set_cons_succ]
      -- 6: tx.go:108 slot 74 := Op.load 9 t73
      refine wpAnyH_take (i := 6) (oi := ⟨some 74, _, _, _, _, _⟩) (v := ?_) rfl (by kernel_rfl) (by kernel_rfl) (by kernel_rfl) (fun _ _ _ h => h) (Or.inl ⟨by rfl, ?_⟩) (by assumption) ?_
      rotate_left 1
      · intro w hSw; (try dsimp only at hSw); go_simp; try with_reducible rfl
      simp only [Act.put, List.setIfInBounds_toArray, List.set_cons_zero, List.set_cons_succ]
      -- 4: tx.go:108 slot 72 := Op.call { value (Operand.func 67), args := #[t68, t71, const (8:i64)], argTypes := #[22, 56, 3] }
      refine wpAnyH_ready (rs := [4]) (by kernel_rfl) (by simp) ?_
      refine AllReadyH.cons (o := ⟨some 72, _, _, _, _, _⟩) rfl (fun K hK => ?_) AllReadyH.nil
      go_simp
      refine (put_calls _ w0.heap.size A5 L c5 q cz 8 hczl.out (by decide) (by omega) (by simp; omega) (own_drew1 hO2) _ rfl _ rfl (L + 8) (q ++ leF 8 cz) rfl rfl).mono ?_
      rintro e w4 ⟨A4, c4, rfl, ho4, hg4, hx4⟩
      try go_wp2_with fail
      have HX4 : Hid ((Value.slice A4 (L + 8) c4).ownBlock = (Value.slice A5 L c5).ownBlock ∨ ∃ g, (Value.slice A4 (L + 8) c4).ownBlock = some g ∧ w2.heap.size ≤ g) := Lib.hid (hx4.imp id fun ⟨g, h, h2⟩ => ⟨g, h, h2⟩)
      have hG := grown_trans hHeld.2.2 hg4
      have hs4 := hG.size
      refine hK.out _ _ ⟨cell_grown hG t1 hgo, cell_grown hG t2 hgo, hG⟩ (fun hHeld' => ?_)
      clear hHeld
      have hHeld := hHeld'
      clear hHeld'
      clear hG hg4 hx4
      clear hK K
      try (simp only [Act.put, List.setIfInBounds_toArray, List.set_cons_zero, List.set_cons_succ])
      -- 7: tx.go:108 slot 75 := Op.call { value (Operand.func 89), args := #[t72, t74], argTypes := #[22, 9] }
      refine wpAnyH_ready (rs := [7]) (by kernel_rfl) (by simp) ?_
      refine AllReadyH.cons (o := ⟨some 75, _, _, _, _, _⟩) rfl (fun K hK => ?_) AllReadyH.nil
      go_simp
      refine (text_calls _ w0.heap.size A4 (L + 8) c4 (q ++ leF 8 cz) x.script hsc1 (by omega) (by omega) ho4 (L + 8 + (textF x.script).length) (q ++ leF 8 cz ++ textF x.script) rfl rfl).mono ?_
      rintro e w5 ⟨A5', c5', rfl, ho5, hg5, hx5⟩
      try go_wp2_with fail
      have hG := grown_chain hHeld.2.2 HX4.out hg5
      refine hK.out _ _ ⟨cell_grown hG t1 hgo, cell_grown hG t2 hgo, hG⟩ (fun hHeld' => ?_)
      clear hHeld
      have hHeld := hHeld'
      clear hHeld'
      clear hG hg5 hx5 ho4
      clear hK K
      try (simp only [Act.put, List.setIfInBounds_toArray, List.set_cons_zero, List.set_cons_succ])
      -- 8: tx.go:108 slot 5 := Op.assign t75
      refine wpAnyH_take (i := 8) (oi := ⟨some 5, _, _, _, _, _⟩) (v := ?_) rfl (by kernel_rfl) (by kernel_rfl) (by kernel_rfl) (fun _ _ _ h => h) (Or.inl ⟨by rfl, ?_⟩) (by assumption) ?_
      rotate_left 1
      · intro w hSw; (try dsimp only at hSw); go_simp; try with_reducible rfl
      simp only [Act.put, List.setIfInBounds_toArray, List.set_cons_zero, List.set_cons_succ]
      refine wpAnyH_done (by kernel_rfl) ?_ _
      refine NoPanic.normal ?_
      have hB6 : Below w0.heap.size w0 w5 := hB2.grown hHeld.2.2 hs2 (fun q hq => hlo.out q hq)
      rw [← HN.out] at ho5
      clear hHeld t1 t2 hB2 hwc
      go_wp2
      go_roundw
      case rel => exact ⟨k + 1, A5', _, c5', by omega, by go_num, rfl, ho5, hB6⟩
      case measure => simp [intOf]; omega
    · have hlt' : ¬ (k : Int) < (n1 : Int) := by omega
      obtain rfl : k = n1 := by omega
      rw [List.take_of_length_le (by rw [HLN.out]; exact Nat.le_refl _)] at hO
      go_wp2
      exact HE.out _ _ _ _ _ _ _ _ _ _ _ _ _ _ A5 L c5 wr hO hB
noncomputable def layB4 : Code := ((Tryd.f56.body.bind (findBk 4)).getD .skip)
set_option maxHeartbeats 4000000 in
theorem lay_wits {u0 u1 u2 u3 u4 u6 u7 u8 u9 u10 u11 u12 u13 u14 u15 u16 u17 u18 u19 u20 u21 u22 u23 u24 u25 u26 u27 u28 u29 u30 u31 u32 u33 u34 u35 u36 u37 u38 u39 u40 u41 u42 u43 u44 u45 u46 u47 u48 u49 u50 u51 u52 u53 u54 u55 u56 u57 u58 u59 u60 u61 u62 u63 u64 u65 u66 u67 u68 u69 u70 u71 u72 u73 u74 u75 u76 u77 u78 u82 u83 u84 u85 u86 u87 u88 u89 u90 u91 u92 u93 u94 u95 u96 u97 u98 u99 u100 u101 u102 u103 u104 u105 u106 u107 : Value} (w0 wr0 : World) (S : Nat → Prop) (A0 : Option Addr) (L0 c0 : Nat) (q0 : List Int) (A1 : Option Addr) (n1 k1 : Nat) (ins : List TIn) (hn1 : n1 ≤ k1) (hk1 : k1 ≤ maxLen)
    (hI : inK.C S w0 A1 n1 ins) (hlen : (q0 ++ ins.flatMap layWit).length ≤ 10000000000) (hb0 : Below w0.heap.size w0 wr0) (ho0 : wr0.ownsRow w0.heap.size 5 1 (.slice A0 L0 c0) L0 (nums .u8 q0)) (Q0 : Exit → Act → World → Prop)
    (hexit : ∀ x11 x13 x81 x82 x83 x84 x85 x86 x87 x88 x89 x90 x91 x92 x93 x94 x95 x96 x97 x98 x99 x100 x101 x102 A' L' c' w', w'.ownsRow w0.heap.size 5 1 (.slice A' L' c') L' (nums .u8 (q0 ++ ins.flatMap layWit)) → Below w0.heap.size w0 w' → Q0 .normal ⟨#[u0, u1, u2, u3, u4, (.slice A' L' c'), u6, u7, u8, u9, u10, x11, u12, x13, u14, u15, u16, u17, u18, u19, u20, u21, u22, u23, u24, u25, u26, u27, u28, u29, u30, u31, u32, u33, u34, u35, u36, u37, u38, u39, u40, u41, u42, u43, u44, u45, u46, u47, u48, u49, u50, u51, u52, u53, u54, u55, u56, u57, u58, u59, u60, u61, u62, u63, u64, u65, u66, u67, u68, u69, u70, u71, u72, u73, u74, u75, u76, u77, u78, .slice A1 n1 k1, .int .i64 n1, x81, x82, x83, x84, x85, x86, x87, x88, x89, x90, x91, x92, x93, x94, x95, x96, x97, x98, x99, x100, x101, x102, u103, u104, u105, u106, u107], []⟩ w') :
    Code.wp Tryd.prog layB4 Q0 ⟨#[u0, u1, u2, u3, u4, .slice A0 L0 c0, u6, u7, u8, u9, u10, u11, u12, u13, u14, u15, u16, u17, u18, u19, u20, u21, u22, u23, u24, u25, u26, u27, u28, u29, u30, u31, u32, u33, u34, u35, u36, u37, u38, u39, u40, u41, u42, u43, u44, u45, u46, u47, u48, u49, u50, u51, u52, u53, u54, u55, u56, u57, u58, u59, u60, u61, u62, u63, u64, u65, u66, u67, u68, u69, u70, u71, u72, u73, u74, u75, u76, u77, u78, .slice A1 n1 k1, .int .i64 n1, .int .i64 0, u82, u83, u84, u85, u86, u87, u88, u89, u90, u91, u92, u93, u94, u95, u96, u97, u98, u99, u100, u101, u102, u103, u104, u105, u106, u107], []⟩ wr0 := by
  have HE := Lib.hid hexit
  clear hexit
  unfold maxLen at hk1
  have hln := hI.len
  have HLN := Lib.hid hln
  have HLEN := Lib.hid hlen
  have hU2 := Tryd.underlying67
  clear hln hlen
  have h0 : wr0.ownsRow w0.heap.size 5 1 (.slice A0 L0 c0) L0 (nums .u8 (q0 ++ (ins.take 0).flatMap layWit)) := by simpa using ho0
  clear ho0
  conv => arg 2; whnf
  go_wp2
  go_loopw [5, 81] (fun v5 v81 wr => ∃ (k : Nat) (A5 : Option Addr) (L c5 : Nat), k ≤ n1 ∧ v81 = .int .i64 k ∧ v5 = .slice A5 L c5 ∧ wr.ownsRow w0.heap.size 5 1 (.slice A5 L c5) L (nums .u8 (q0 ++ (ins.take k).flatMap layWit)) ∧ Below w0.heap.size w0 wr) (fun _ v _ => n1 - (intOf v).toNat)
  case atStart => exact ⟨0, A0, L0, c0, by omega, rfl, rfl, h0, hb0⟩
  case round =>
    clear h0 hb0
    obtain ⟨k, A5, L, c5, hk, rfl, rfl, hO, hB⟩ := hrel
    by_cases hlt : k < n1
    · have hlt' : (k : Int) < (n1 : Int) := by omega
      have hkk : (0 : Int) ≤ (k : Int) := by omega
      obtain ⟨b, o, x, Aw, nw, cw, hA1, hx, hrg0, hok, hw1, hw2, hwc⟩ := in_at hI k hlt
      have hrg := range_below hB hrg0
      have hfl := take_flat layWit ins k x hx
      have hle := take_flat_le layWit ins (k + 1)
      obtain ⟨q, hq⟩ : ∃ q, q = q0 ++ (ins.take k).flatMap layWit := ⟨_, rfl⟩
      rw [← hq] at hO
      have hqL := own_len hO
      have hnw : x.wit.length = nw := hwc.len
      have hsc : L + (compF nw).length + (x.wit.flatMap textF).length ≤ 10000000000 := by
        have h1 := HLEN.out
        rw [hfl] at hle
        simp only [List.length_append, layWit, hnw] at hle h1
        rw [hq, List.length_append] at hqL
        omega
      have HN : Hid (q0 ++ (ins.take (k + 1)).flatMap layWit = q ++ compF nw ++ x.wit.flatMap textF) := Lib.hid (by rw [hfl, hq, layWit, hnw]; simp only [List.append_assoc])
      have hidl := hok.idl
      have i1 := info_in x hidl (.slice Aw nw cw)
      unfold maxLen at hw2
      have hnwI : (nw : Int) ≤ 9223372036854775807 := by omega
      have HNW : Hid (nw < 18446744073709551616) := Lib.hid (by omega)
      have HQ := Lib.hid hq
      have HX := Lib.hid hx
      have HQL := Lib.hid hqL
      have HWL := Lib.hid hnw
      have hsr := hB.size
      subst hA1
      clear hq hx hqL hfl hle hnw
      go_upto_region 21 with (first | (refine wpList_load_mid rfl 67 (.tmp 83) rfl b (o + k * 36) rfl (inCells x (.slice Aw nw cw)) _ hrg hU2 rfl i1 ?_) | (refine wpList_store_any rfl 67 (.tmp 11) (.tmp 84) rfl wr.heap.size (inCells x (.slice Aw nw cw)).toArray rfl rfl 67 (inCells in0 (.slice none 0 0)).toArray (heap_alloc_new _ _) (info_inA x hidl _) (in_sizes x hidl _) (in_one x _ rfl) ?_; intro w2 g2 ht2))
      have hb2 : Below wr.heap.size wr w2 := ht2.below ((Below.refl wr.heap.size wr).alloc (Nat.le_refl _) _) (Nat.le_refl _)
      have hO2 := own_below hO hb2
      have hB2 := below_then hB hsr hb2
      have hgo : some wr.heap.size ≠ (Value.slice A5 L c5).ownBlock := fun e => by have := (hO.lt _ e.symm).2; omega
      have t1 : w2.cell? ⟨wr.heap.size, 35, none⟩ = some (.slice Aw nw cw) := blk_cell g2 (by rw [List.getElem?_toArray]; exact inCells_at hidl _ 3)
      have hlo : Hid (∀ q, (Value.slice A5 L c5).ownBlock = some q → w0.heap.size ≤ q ∧ q < wr.heap.size) := Lib.hid fun q hq => ⟨own_base hO q hq, (hO.lt q hq).2⟩
      have hs2 := hB2.size
      have hwr2 := hb2.size
      clear ht2 hb2 hO hB hrg hrg0 g2
      go_wp2_with fail
      refine (comp_calls w2 w0.heap.size A5 L c5 q nw HNW (by omega) hs2 hO2 (L + (compF nw).length) (q ++ compF nw) rfl rfl).mono ?_
      rintro e w3 ⟨A3, c3, rfl, ho3, hg3, hx3⟩
      have t13 := cell_grown hg3 t1 hgo
      have hB3 : Below w0.heap.size w0 w3 := hB2.grown hg3 hs2 (fun q hq => (hlo.out q hq).1)
      have hlo3 : Hid (∀ q, (Value.slice A3 (L + (compF nw).length) c3).ownBlock = some q → w0.heap.size ≤ q) := Lib.hid fun q hq => own_base ho3 q hq
      have h30 : w3.ownsRow w0.heap.size 5 1 (.slice A3 (L + (compF nw).length) c3) (L + (compF nw).length) (nums .u8 (q ++ compF nw ++ (x.wit.take 0).flatMap textF)) := by simpa using ho3
      have hcl := compF_le nw
      clear hg3 hx3 hB2 hO2 t1 ho3
      go_wp2
      go_loopw [5, 94] (fun v5 v94 wz => ∃ (j : Nat) (A6 : Option Addr) (M c6 : Nat), j ≤ nw ∧ v94 = .int .i64 j ∧ v5 = .slice A6 M c6 ∧ wz.ownsRow w0.heap.size 5 1 (.slice A6 M c6) M (nums .u8 (q ++ compF nw ++ (x.wit.take j).flatMap textF)) ∧ Below w0.heap.size w0 wz) (fun _ v _ => nw - (intOf v).toNat)
      case atStart => exact ⟨0, A3, _, c3, by omega, rfl, rfl, h30, hB3⟩
      case round =>
        clear h30 hB3 t13
        obtain ⟨j, A6, M, c6, hj, rfl, rfl, hO6, hB6⟩ := hrel
        by_cases hjn : j < nw
        · have hjn' : (j : Int) < (nw : Int) := by omega
          have hj0 : (0 : Int) ≤ (j : Int) := by omega
          obtain ⟨b6, o6, y, hAw, hy, hc6, hys⟩ := str_at (RK.C.below hwc hB6) j hjn
          have hfl := take_flat textF x.wit j y hy
          have hle := take_flat_le textF x.wit (j + 1)
          obtain ⟨r, hr⟩ : ∃ r, r = q ++ compF nw ++ (x.wit.take j).flatMap textF := ⟨_, rfl⟩
          rw [← hr] at hO6
          have hrL := own_len hO6
          have hsc6 : y.size ≤ 10000000000 ∧ M + (textF y).length ≤ 10000000000 := by
            rw [hfl] at hle
            rw [hr] at hrL
            have h2 := textF_length y
            have h3 := HQL.out
            simp only [List.length_append] at hle hrL
            omega
          have HN6 : Hid (q ++ compF nw ++ (x.wit.take (j + 1)).flatMap textF = r ++ textF y) := Lib.hid (by rw [hfl, hr]; simp only [List.append_assoc])
          obtain ⟨hsy1, hsy2⟩ := hsc6
          have hlo6 : Hid (∀ q, (Value.slice A6 M c6).ownBlock = some q → w0.heap.size ≤ q) := Lib.hid fun q hq => own_base hO6 q hq
          have hs6 := hB6.size
          have HR := Lib.hid hr
          have HRL := Lib.hid hrL
          have HY := Lib.hid hy
          subst hAw
          clear hr hrL hfl hle hy
          go_wp2_with fail
          refine (text_calls _ w0.heap.size A6 M c6 r y hsy1 (by omega) hs6 hO6 (M + (textF y).length) (r ++ textF y) rfl rfl).mono ?_
          rintro e w7 ⟨A7, c7, rfl, ho7, hg7, hx7⟩
          have hB7 : Below w0.heap.size w0 w7 := hB6.grown hg7 hs6 (fun q hq => hlo6.out q hq)
          rw [← HN6.out] at ho7
          clear hg7 hx7 hB6 hO6 hc6
          go_wp2
          go_roundw
          case rel => exact ⟨j + 1, A7, _, c7, by omega, by go_num, rfl, ho7, hB7⟩
          case measure => simp [intOf]; omega
        · have hjn' : ¬ (j : Int) < (nw : Int) := by omega
          obtain rfl : j = nw := by omega
          rw [List.take_of_length_le (by rw [HWL.out]; exact Nat.le_refl _), ← HN.out] at hO6
          go_wp2
          go_roundw
          case rel => exact ⟨k + 1, A6, M, c6, by omega, by go_num, rfl, hO6, hB6⟩
          case measure => simp [intOf]; omega
    · have hlt' : ¬ (k : Int) < (n1 : Int) := by omega
      obtain rfl : k = n1 := by omega
      rw [List.take_of_length_le (by rw [HLN.out]; exact Nat.le_refl _)] at hO
      go_wp2
      exact HE.out _ _ _ _ _ _ _ _ _ _ _ _ _ _ _ _ _ _ _ _ _ _ _ _ A5 L c5 wr hO hB
end Go.Proofs.YtclkgflficlmiaaDoor
