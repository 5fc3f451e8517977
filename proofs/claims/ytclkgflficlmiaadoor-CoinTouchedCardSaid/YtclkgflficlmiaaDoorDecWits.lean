/- tx.Decode: the witness of one input. | tx.Decode: the witnesses of all inputs. -/
import Derived.Test.YtclkgflficlmiaaDoorHeldW
/-! ## DecWit -/
section
set_option maxRecDepth 100000
set_option linter.unusedVariables false
namespace Go.Proofs.YtclkgflficlmiaaDoor
open Go Go.RowKit
theorem zinfo_str : (Tryd.prog.info? 9).map (fun i => (i.zero, i.size, i.bytes)) = some (some (.string ⟨#[]⟩), 1, 16) := by kernel_rfl
abbrev StrOwn (w : World) (base : Nat) (v : Value) (n : Nat) (xs : List ByteArray) : Prop := RK.str.Own (fun _ => False) w base 9 v n xs
theorem text_max (p : PSt) : (strOfNums p.textB).size ≤ maxLen := by
  rw [strOfNums_size]
  have := PSt.textB_len p
  unfold maxLen
  omega
theorem str_one {w : World} {g : Nat} {t : TypeId} {fz : Nat × Nat} {x : ByteArray} (h : w.heap[g]? = some (.cells #[.string x] t fz)) (hx : x.size ≤ maxLen) : RK.str.C (fun _ => True) w (some ⟨g, 0, none⟩) 1 [x] := by
  refine ⟨rfl, fun _ => ⟨g, 0, rfl, trivial, heap_lt h, fun i y hy => ?_⟩⟩
  obtain rfl : i = 0 := by have := (List.getElem?_eq_some_iff.1 hy).1; simp at this; omega
  obtain rfl : x = y := by simpa using hy
  refine ⟨_, ⟨rfl, hx⟩, fun j v hv => ?_⟩
  rw [show 0 + 0 * RK.str.sz + j = j by omega]
  exact blk_cell h (by rw [← List.getElem?_toArray] at hv; exact hv)
noncomputable def decB6 : Code := ((Tryd.f37.body.bind (findBk 6)).getD .skip)
set_option maxHeartbeats 8000000 in
theorem dec_wit {u0 u1 u2 u3 u4 u7 u8 u9 u11 u12 u13 u14 u15 u16 u17 u18 u19 u20 u21 u22 u23 u24 u25 u26 u27 u28 u29 u30 u31 u32 u33 u34 u35 u36 u37 u38 u39 u40 u41 u42 u43 u44 u45 u46 u47 u48 u49 u50 u51 u52 u53 u54 u55 u56 u57 u58 u59 u60 u61 u62 u63 u64 u65 u66 u67 u68 u69 u70 u71 u72 u73 u74 u75 u76 u77 u78 u79 u80 u81 u82 u83 u84 u85 u86 u87 u88 u89 u90 u91 u92 u93 u94 u95 u96 u97 u98 u99 u100 u101 u102 u103 u104 u105 u106 u107 u108 u109 u110 u111 u112 u113 u114 u115 u116 u117 u118 u119 u120 u121 u124 u125 u126 u127 u128 u129 u130 u131 u132 u133 u134 u135 u136 u137 u138 u139 u140 u141 u142 u143 u144 u145 u146 u147 u148 u149 u150 u151 u152 u153 u154 u155 u156 u157 u158 u159 u160 u161 u162 u163 u164 u165 u166 u167 u168 u169 u170 u171 u172 u173 u174 u175 u176 u177 u178 u179 u180 u181 u182 u183 u184 u185 u186 u187 u188 u189 u190 u191 u192 u193 u194 u195 u196 u197 u198 u199 u200 u201 u202 u203 u204 u205 u206 u207 u208 u209 u210 u211 : Value} (w wr0 : World) (r D g6 gi base n0 k N c : Nat) (ver : Int) (v2 : Value) (xs : List TIn) (vs : List Value) (p0 : PSt) (hn0 : n0 ≤ 100) (hwr : w.heap.size ≤ r) (hw6 : w.heap.size ≤ g6) (hwg : w.heap.size ≤ gi) (hr6 : r ≠ g6) (hrg : r ≠ gi) (h6g : g6 ≠ gi) (hrb : r < base) (h6b : g6 < base) (hgb : gi < base) (hDw : D < w.heap.size) (hbase : base ≤ wr0.heap.size)
    (hk : k < xs.length) (hN : xs.length = N) (hNc : N ≤ c) (hcm : c ≤ maxLen) (hvl : vs.length = xs.length) (hi : ∀ x ∈ xs, x.id.length = 32)
    (hS0 : RSt wr0 r D p0) (hg0 : wr0.heap[g6]? = some (.cells (tCells ver (.slice (some ⟨gi, 0, none⟩) N c) v2 0) 54)) (hR0 : RowW wr0 gi xs (vs.set k (.slice none 0 0))) (hb0 : Below w.heap.size w wr0) (Q0 : Exit → Act → World → Prop)
    (hexit : ∀ x123 x124 x125 x126 x127 x128 x129 x130 x131 x132 x133 x134 x135 x136 x137 x138 x139 x140 x141 x142 x143 x144 x145 A m c1 wr p acc, witsP n0 p0 = (acc, p) → RSt wr r D p ∧ StrOwn wr base (.slice A m c1) m acc ∧ RowW wr gi xs (vs.set k (.slice A m c1)) ∧ wr.heap[g6]? = some (.cells (tCells ver (.slice (some ⟨gi, 0, none⟩) N c) v2 0) 54) ∧ Below w.heap.size w wr ∧ base ≤ wr.heap.size ∧ Two0 wr0 r gi base wr → Q0 .normal ⟨#[u0, u1, u2, u3, u4, .pointer (some ⟨r, 0, none⟩), .pointer (some ⟨g6, 0, none⟩), u7, u8, u9, .int .i64 k, u11, u12, u13, u14, u15, u16, u17, u18, u19, u20, u21, u22, u23, u24, u25, u26, u27, u28, u29, u30, u31, u32, u33, u34, u35, u36, u37, u38, u39, u40, u41, u42, u43, u44, u45, u46, u47, u48, u49, u50, u51, u52, u53, u54, u55, u56, u57, u58, u59, u60, u61, u62, u63, u64, u65, u66, u67, u68, u69, u70, u71, u72, u73, u74, u75, u76, u77, u78, u79, u80, u81, u82, u83, u84, u85, u86, u87, u88, u89, u90, u91, u92, u93, u94, u95, u96, u97, u98, u99, u100, u101, u102, u103, u104, u105, u106, u107, u108, u109, u110, u111, u112, u113, u114, u115, u116, u117, u118, u119, u120, u121, .int .i64 n0, x123, x124, x125, x126, x127, x128, x129, x130, x131, x132, x133, x134, x135, x136, x137, x138, x139, x140, x141, x142, x143, x144, x145, u146, u147, u148, u149, u150, u151, u152, u153, u154, u155, u156, u157, u158, u159, u160, u161, u162, u163, u164, u165, u166, u167, u168, u169, u170, u171, u172, u173, u174, u175, u176, u177, u178, u179, u180, u181, u182, u183, u184, u185, u186, u187, u188, u189, u190, u191, u192, u193, u194, u195, u196, u197, u198, u199, u200, u201, u202, u203, u204, u205, u206, u207, u208, u209, u210, u211], []⟩ wr) :
    Code.wp Tryd.prog decB6 Q0 ⟨#[u0, u1, u2, u3, u4, .pointer (some ⟨r, 0, none⟩), .pointer (some ⟨g6, 0, none⟩), u7, u8, u9, .int .i64 k, u11, u12, u13, u14, u15, u16, u17, u18, u19, u20, u21, u22, u23, u24, u25, u26, u27, u28, u29, u30, u31, u32, u33, u34, u35, u36, u37, u38, u39, u40, u41, u42, u43, u44, u45, u46, u47, u48, u49, u50, u51, u52, u53, u54, u55, u56, u57, u58, u59, u60, u61, u62, u63, u64, u65, u66, u67, u68, u69, u70, u71, u72, u73, u74, u75, u76, u77, u78, u79, u80, u81, u82, u83, u84, u85, u86, u87, u88, u89, u90, u91, u92, u93, u94, u95, u96, u97, u98, u99, u100, u101, u102, u103, u104, u105, u106, u107, u108, u109, u110, u111, u112, u113, u114, u115, u116, u117, u118, u119, u120, u121, .int .i64 n0, .int .i64 0, u124, u125, u126, u127, u128, u129, u130, u131, u132, u133, u134, u135, u136, u137, u138, u139, u140, u141, u142, u143, u144, u145, u146, u147, u148, u149, u150, u151, u152, u153, u154, u155, u156, u157, u158, u159, u160, u161, u162, u163, u164, u165, u166, u167, u168, u169, u170, u171, u172, u173, u174, u175, u176, u177, u178, u179, u180, u181, u182, u183, u184, u185, u186, u187, u188, u189, u190, u191, u192, u193, u194, u195, u196, u197, u198, u199, u200, u201, u202, u203, u204, u205, u206, u207, u208, u209, u210, u211], []⟩ wr0 := by
  have HE := Lib.hid hexit
  clear hexit
  have hE0 : StrOwn wr0 base (.slice none 0 0) 0 [] := RK.Own.nil _ _ _ _ _
  have hT0 : Two0 wr0 r gi base wr0 := fun _ _ _ _ => rfl
  conv => arg 2; whnf
  go_wp2
  go_loopw [123] (fun v123 wr => ∃ (j : Nat) (p : PSt) (acc : List ByteArray) (A : Option Addr) (m c1 : Nat), j ≤ n0 ∧ v123 = .int .i64 j ∧ m = j ∧ Hid (witsP n0 p0 = (acc ++ (witsP (n0 - j) p).1, (witsP (n0 - j) p).2)) ∧ RSt wr r D p ∧ StrOwn wr base (.slice A m c1) m acc ∧ RowW wr gi xs (vs.set k (.slice A m c1)) ∧ wr.heap[g6]? = some (.cells (tCells ver (.slice (some ⟨gi, 0, none⟩) N c) v2 0) 54) ∧ Below w.heap.size w wr ∧ base ≤ wr.heap.size ∧ Two0 wr0 r gi base wr) (fun v _ => n0 - (intOf v).toNat)
  case atStart => exact ⟨0, p0, [], none, 0, 0, by omega, rfl, rfl, Lib.hid (by simp), hS0, hE0, hR0, hg0, hb0, hbase, hT0⟩
  case round =>
    clear hS0 hE0 hR0 hg0 hb0 hbase hT0
    obtain ⟨j, p, acc, A, m, c1, hj, rfl, hmj, HR, hS, hO, hRw, hg6, hB, hbs, hT⟩ := hrel
    have HT := Lib.hid hT
    clear hT
    by_cases hlt : j < n0
    · have hlt' : (j : Int) < (n0 : Int) := by omega
      obtain ⟨Ar, nr, cr, hgr, _⟩ := id hS
      have e1 : wr.cell? ⟨r, 1, none⟩ = some (.int .i64 p.e) := blk_cell hgr rfl
      clear hgr
      by_cases he : p.e = 0
      · have he1 : (p.e != 0) = false := by rw [he]; rfl
        have hstep : witsP n0 p0 = (acc ++ [strOfNums p.textB] ++ (witsP (n0 - (j + 1)) p.text).1, (witsP (n0 - (j + 1)) p.text).2) := by
          rw [HR.out, show n0 - j = (n0 - (j + 1)) + 1 by omega, witsP, if_neg (by rw [he]; decide), List.append_assoc]
          rfl
        have HST := Lib.hid hstep
        have hmJ := Lib.hid hmj
        have HE0 := Lib.hid he
        have hgw := heap_lt hg6
        have hml : m + 1 ≤ 101 := by omega
        have hx : xs[k]? = some (xs[k]'hk) := List.getElem?_eq_getElem hk
        have hvs : (vs.set k (.slice A m c1))[k]? = some (.slice A m c1) := by rw [List.getElem?_set_self (by omega)]
        have cW := hRw.cell (by rw [List.length_set]; exact hvl) hi hx hvs
        have cT := blk_cell hg6 (i := 1) (v := .slice (some ⟨gi, 0, none⟩) N c) rfl
        have hkN : (k : Int) < (N : Int) := by omega
        have hSd : RSt wr.drew r D p := hS.below (Below.drew (Below.refl _ _))
        have HV := Lib.hid hvl
        clear hstep he hmj hx hvs hvl
        go_upto_region 31 with fail
        refine wp_region_noPanic ?_
        refine wp_region_heldU (fun w' => w'.cell? ⟨g6, 1, none⟩ = some (.slice (some ⟨gi, 0, none⟩) N c) ∧ w'.cell? ⟨gi, k * 36 + 35, none⟩ = some (.slice A m c1)) 15 (by kernel_rfl) ⟨cT, cW⟩ (fun hHeld => ?_)
        -- 0: tx.go:220 slot 130 := Op.fieldAddr 69 t6 1
        refine wpAnyU_take (i := 0) (oi := ⟨some 130, _, _, _, _, _⟩) (v := ?_) rfl (by kernel_rfl) (by kernel_rfl) (by kernel_rfl) (by kernel_rfl) (fun _ _ _ h => h) (Or.inl ⟨by rfl, ?_⟩) (by assumption) ?_
        rotate_left 1
        · intro w hSw; (try dsimp only at hSw); go_simp; try with_reducible rfl
        simp only [Act.put, List.setIfInBounds_toArray, List.set_cons_zero, List.set_cons_succ]
        -- 1: tx.go:220 slot 131 := Op.load 66 t130
        refine wpAnyU_take (i := 1) (oi := ⟨some 131, _, _, _, _, _⟩) (v := ?_) rfl (by kernel_rfl) (by kernel_rfl) (by kernel_rfl) (by kernel_rfl) (fun _ _ _ h => h) (Or.inl ⟨by rfl, ?_⟩) (by assumption) ?_
        rotate_left 1
        · intro w hSw; (try dsimp only at hSw); go_simp; try with_reducible rfl
        simp only [Act.put, List.setIfInBounds_toArray, List.set_cons_zero, List.set_cons_succ]
        -- 2: tx.go:220 slot 132 := Op.move t10
        refine wpAnyU_take (i := 2) (oi := ⟨some 132, _, _, _, _, _⟩) (v := ?_) rfl (by kernel_rfl) (by kernel_rfl) (by kernel_rfl) (by kernel_rfl) (fun _ _ _ h => h) (Or.inl ⟨by rfl, ?_⟩) (by assumption) ?_
        rotate_left 1
        · intro w hSw; (try dsimp only at hSw); go_simp; try with_reducible rfl
        simp only [Act.put, List.setIfInBounds_toArray, List.set_cons_zero, List.set_cons_succ]
        -- 3: tx.go:220 slot 133 := Op.fieldAddr 69 t6 1
        refine wpAnyU_take (i := 3) (oi := ⟨some 133, _, _, _, _, _⟩) (v := ?_) rfl (by kernel_rfl) (by kernel_rfl) (by kernel_rfl) (by kernel_rfl) (fun _ _ _ h => h) (Or.inl ⟨by rfl, ?_⟩) (by assumption) ?_
        rotate_left 1
        · intro w hSw; (try dsimp only at hSw); go_simp; try with_reducible rfl
        simp only [Act.put, List.setIfInBounds_toArray, List.set_cons_zero, List.set_cons_succ]
        -- 4: tx.go:220 slot 134 := Op.load 66 t133
        refine wpAnyU_take (i := 4) (oi := ⟨some 134, _, _, _, _, _⟩) (v := ?_) rfl (by kernel_rfl) (by kernel_rfl) (by kernel_rfl) (by kernel_rfl) (fun _ _ _ h => h) (Or.inl ⟨by rfl, ?_⟩) (by assumption) ?_
        rotate_left 1
        · intro w hSw; (try dsimp only at hSw); go_simp; try with_reducible rfl
        simp only [Act.put, List.setIfInBounds_toArray, List.set_cons_zero, List.set_cons_succ]
        -- 5: tx.go:220 slot 135 := Op.move t10
        refine wpAnyU_take (i := 5) (oi := ⟨some 135, _, _, _, _, _⟩) (v := ?_) rfl (by kernel_rfl) (by kernel_rfl) (by kernel_rfl) (by kernel_rfl) (fun _ _ _ h => h) (Or.inl ⟨by rfl, ?_⟩) (by assumption) ?_
        rotate_left 1
        · intro w hSw; (try dsimp only at hSw); go_simp; try with_reducible rfl
        simp only [Act.put, List.setIfInBounds_toArray, List.set_cons_zero, List.set_cons_succ]
        -- 6: tx.go:220 slot 136 := Op.indexAddr 66 t134 t135
        refine wpAnyU_take (i := 6) (oi := ⟨some 136, _, _, _, _, _⟩) (v := ?_) rfl (by kernel_rfl) (by kernel_rfl) (by kernel_rfl) (by kernel_rfl) (fun _ _ _ h => h) (Or.inl ⟨by rfl, ?_⟩) (by assumption) ?_
        rotate_left 1
        · intro w hSw; (try dsimp only at hSw); go_simp; try with_reducible rfl
        simp only [Act.put, List.setIfInBounds_toArray, List.set_cons_zero, List.set_cons_succ]
        -- 7: tx.go:220 slot 137 := Op.fieldAddr 80 t136 3
        refine wpAnyU_take (i := 7) (oi := ⟨some 137, _, _, _, _, _⟩) (v := ?_) rfl (by kernel_rfl) (by kernel_rfl) (by kernel_rfl) (by kernel_rfl) (fun _ _ _ h => h) (Or.inl ⟨by rfl, ?_⟩) (by assumption) ?_
        rotate_left 1
        · intro w hSw; (try dsimp only at hSw); go_simp; try with_reducible rfl
        simp only [Act.put, List.setIfInBounds_toArray, List.set_cons_zero, List.set_cons_succ]
        -- 8: tx.go:220 slot 138 := Op.load 78 t137
        refine wpAnyU_take (i := 8) (oi := ⟨some 138, _, _, _, _, _⟩) (v := ?_) rfl (by kernel_rfl) (by kernel_rfl) (by kernel_rfl) (by kernel_rfl) (fun _ _ _ h => h) (Or.inl ⟨by rfl, ?_⟩) (by assumption) ?_
        rotate_left 1
        · intro w hSw; (try dsimp only at hSw); go_simp; try with_reducible rfl
        simp only [Act.put, List.setIfInBounds_toArray, List.set_cons_zero, List.set_cons_succ]
        -- 9: tx.go:220 slot 139 := Op.move t5
        refine wpAnyU_take (i := 9) (oi := ⟨some 139, _, _, _, _, _⟩) (v := ?_) rfl (by kernel_rfl) (by kernel_rfl) (by kernel_rfl) (by kernel_rfl) (fun _ _ _ h => h) (Or.inl ⟨by rfl, ?_⟩) (by assumption) ?_
        rotate_left 1
        · intro w hSw; (try dsimp only at hSw); go_simp; try with_reducible rfl
        simp only [Act.put, List.setIfInBounds_toArray, List.set_cons_zero, List.set_cons_succ]
        -- 10: tx.go:220 slot 140 := Op.call { value (Operand.func 74), args := #[t139], argTypes := #[143] }
        refine wpAnyU_ready (i := 10) (o := ⟨some 140, _, _, _, _, _⟩) (by kernel_rfl) rfl (by decide) (fun K hK => ?_)
        go_simp
        refine (rtext_calls wr.drew r D p hSd).mono ?_
        rintro e w1 ⟨rfl, hS1, hG1⟩
        try go_wp2_with fail
        have hT1 := cell_grown hG1 hHeld.1 (fun e => hr6 (Option.some.inj e).symm)
        have hW1 := cell_grown hG1 hHeld.2 (fun e => hrg (Option.some.inj e).symm)
        refine hK.out _ _ ⟨hT1, hW1⟩ (fun hHeld' => ?_)
        clear hHeld
        have hHeld := hHeld'
        clear hHeld'
        clear hK K
        try (simp only [Act.put, List.setIfInBounds_toArray, List.set_cons_zero, List.set_cons_succ])
        -- 11: tx.go:220 slot 141 := Op.buildSlice 78 1 #[(0, t140)]
        refine wpAnyU_ready (i := 11) (o := ⟨some 141, _, _, _, _, _⟩) (by kernel_rfl) rfl (by decide) (fun K hK => ?_)
        go_simp
        have hgr := World.grownBy_alloc w1 (.cells #[.string (strOfNums p.textB)] 9) none
        have hT2 := cell_grown hgr hT1 (by simp)
        have hW2 := cell_grown hgr hW1 (by simp)
        refine hK.out _ _ ⟨hT2, hW2⟩ (fun hHeld' => ?_)
        clear hHeld
        have hHeld := hHeld'
        clear hHeld'
        clear hK K
        try (simp only [Act.put, List.setIfInBounds_toArray, List.set_cons_zero, List.set_cons_succ])
        -- 12: tx.go:220 slot 142 := Op.call { builtin append, args := #[t138, t141], argTypes := #[78, 78] }
        refine wpAnyU_ready (i := 12) (o := ⟨some 142, _, _, _, _, _⟩) (by kernel_rfl) rfl (by decide) (fun K hK => ?_)
        have hO2 : StrOwn (w1.alloc (.cells #[.string (strOfNums p.textB)] 9)) base (.slice A m c1) m acc := RK.Own.alloc (RK.Own.grown_ (RK.Own.below hO (Below.drew (Below.refl _ _))) hG1 (fun k e => by cases e; exact hrb)) _
        have hC2 := str_one (heap_alloc_new w1 (.cells #[.string (strOfNums p.textB)] 9)) (text_max p)
        have hlo : Hid (∀ q, (Value.slice A m c1).ownBlock = some q → base ≤ q) := Lib.hid fun q hq => (RK.Own.lt hO2 q hq).1
        refine RK.step_appK RK.str _ (by rfl) (.tmp 138) (.tmp 141) 65 (by rfl) (fun _ => False) base 9 (.string ⟨#[]⟩) 16 Tryd.underlying65 zinfo_str rfl (by decide) (.slice A m c1) m acc (by rfl) hO2 (fun k h => h.elim) _ 1 1 [strOfNums p.textB] (by rfl) (fun _ => True) hC2 (fun _ _ h => h) (m + 1) _ rfl rfl (by unfold maxLen; omega) (by omega) (by have := hG1.size; simp at this ⊢; omega) ?_
        intro A9 c9 w9 hO9 hG9 hat9
        have hT3 := cell_grown hG9 hT2 (fun e => by have := hlo.out _ e.symm; omega)
        have hW3 := cell_grown hG9 hW2 (fun e => by have := hlo.out _ e.symm; omega)
        have hgil : gi < wr.heap.size := by omega
        have hs1 := hG1.size
        have hRw9 : RowW w9 gi xs (vs.set k (.slice A m c1)) := hRw.move ((hG9.block gi (by simp at hs1 ⊢; omega) (fun e => by have := hlo.out _ e.symm; omega)).trans (((World.grownBy_alloc w1 _ none).block gi (by simp at hs1; omega) (by simp)).trans (hG1.block gi hgil (fun e => hrg (Option.some.inj e).symm))))
        have f9 := hRw9.frozen (k * 36 + 35)
        refine hK.out _ _ ⟨hT3, hW3⟩ (fun hHeld' => ?_)
        clear hHeld
        have hHeld := hHeld'
        clear hHeld'
        clear hK K
        try (simp only [Act.put, List.setIfInBounds_toArray, List.set_cons_zero, List.set_cons_succ])
        -- 13: tx.go:220 slot 143 := Op.indexAddr 66 t131 t132
        refine wpAnyU_ready (i := 13) (o := ⟨some 143, _, _, _, _, _⟩) (by kernel_rfl) rfl (by decide) (fun K hK => ?_)
        go_simp
        refine hK.out _ _ hHeld (fun hHeld' => ?_)
        clear hHeld
        have hHeld := hHeld'
        clear hHeld'
        clear hK K
        try (simp only [Act.put, List.setIfInBounds_toArray, List.set_cons_zero, List.set_cons_succ])
        -- 14: tx.go:220 slot 144 := Op.fieldAddr 80 t143 3
        refine wpAnyU_take (i := 14) (oi := ⟨some 144, _, _, _, _, _⟩) (v := ?_) rfl (by kernel_rfl) (by kernel_rfl) (by kernel_rfl) (by kernel_rfl) (fun _ _ _ h => h) (Or.inl ⟨by rfl, ?_⟩) (by assumption) ?_
        rotate_left 1
        · intro w hSw; (try dsimp only at hSw); go_simp; try with_reducible rfl
        simp only [Act.put, List.setIfInBounds_toArray, List.set_cons_zero, List.set_cons_succ]
        -- 15: tx.go:220 slot none := Op.store 78 t144 t142
        refine wpAnyU_last (o := ⟨none, _, _, _, _, _⟩) (by kernel_rfl) rfl (fun K hK => ?_)
        have hW4 := hHeld.2
        go_simp
        refine hK.out _ _ ?_
        clear hK K
        try (simp only [Act.put])
        refine wpAnyU_done (by kernel_rfl) ?_ _
        refine NoPanic.normal ?_
        have hT9 := turned_setCell w9 gi (k * 36 + 35) (.slice A9 (m + 1) c9)
        have hWa : Below w1.heap.size w1 (w1.alloc (.cells #[.string (strOfNums p.textB)] 9)) := (Below.refl _ _).alloc (Nat.le_refl _) _
        have hG1' : wr.grownBy w1 (some r) := grown_below (Below.drew (Below.refl _ _)) hG1
        have hs1' := hG1'.size
        have hrs : r < wr.heap.size := by omega
        have hDs : D < wr.heap.size := by have := hB.size; omega
        have hS9 : RSt w9 r D p.text := (hS1.below hWa).keep (hG9.block r (by simp; omega) (fun e => by have := hlo.out r e.symm; omega)) (hG9.block D (by simp; omega) (fun e => by have := hlo.out D e.symm; omega))
        have hS10 := hS9.keep (hT9.block r hrg) (hT9.block D (by omega))
        have hO10 := RK.Own.grown_ hO9 hT9.grown (fun q e => by cases e; exact hgb)
        have hRw10 : RowW (w9.setCell ⟨gi, k * 36 + 35, none⟩ (.slice A9 (m + 1) c9)) gi xs (vs.set k (.slice A9 (m + 1) c9)) := by
          have := hRw9.set (by rw [List.length_set]; exact HV.out) hi hk (.slice A9 (m + 1) c9)
          rwa [List.set_set] at this
        have hg10 := (hT9.block g6 h6g).trans ((hG9.block g6 (by simp; omega) (fun e => by have := hlo.out g6 e.symm; omega)).trans ((hWa.block g6 (by omega)).trans ((hG1'.block g6 hgw (fun e => hr6 (Option.some.inj e).symm)).trans hg6)))
        have hB1 := hB.grown hG1' hB.size (fun q e => by cases e; exact hwr)
        have hB9 := (below_then hB1 hB1.size hWa).grown hG9 (below_then hB1 hB1.size hWa).size (fun q e => by have := hlo.out q e; omega)
        have hB10 := hT9.below hB9 hwg
        have hs10 : base ≤ (w9.setCell ⟨gi, k * 36 + 35, none⟩ (.slice A9 (m + 1) c9)).heap.size := by have h1 := hG9.size; rw [hT9.size]; simp at h1; omega
        have hT10 : Two0 wr0 r gi base (w9.setCell ⟨gi, k * 36 + 35, none⟩ (.slice A9 (m + 1) c9)) := fun q hq hqr hqg =>
          (hT9.block q hqg).trans ((hG9.block q (by simp; omega) (fun e => by have := hlo.out q e.symm; omega)).trans ((hWa.block q (by omega)).trans ((hG1'.block q (by omega) (fun e => hqr (Option.some.inj e))).trans (HT.out q hq hqr hqg))))
        clear hHeld hW4 hT3 hW3 hG9 hat9 hO9 hRw9 f9 hs1 hgil hO2 hC2 hT2 hW2 hgr hW1 hT1 hG1 hS1 hS hO hRw hg6 hS9 hB1 hB9 hWa hG1' hs1' hT9 cW cT hSd
        go_wp2
        go_roundw
        case rel => exact ⟨j + 1, p.text, acc ++ [strOfNums p.textB], A9, m + 1, c9, by omega, by go_num, by rw [hmJ.out], HST, hS10, hO10, hRw10, hg10, hB10, hs10, hT10⟩
        case measure => simp [intOf]; omega
      · have he1 : (p.e != 0) = true := by rw [bne_iff_ne]; exact he
        have hstop : witsP n0 p0 = (acc, p) := by
          rw [HR.out, show n0 - j = (n0 - (j + 1)) + 1 by omega, witsP, if_pos he, List.append_nil]
        go_upto_region 31 with fail
        exact HE.out _ _ _ _ _ _ _ _ _ _ _ _ _ _ _ _ _ _ _ _ _ _ _ A m c1 wr p acc hstop ⟨hS, hO, hRw, hg6, hB, hbs, HT.out⟩
    · have hlt' : ¬ ((j : Int) < (n0 : Int)) := by omega
      have hend : witsP n0 p0 = (acc, p) := by
        rw [HR.out, show n0 - j = 0 by omega, witsP, List.append_nil]
      go_wp2
      exact HE.out _ _ _ _ _ _ _ _ _ _ _ _ _ _ _ _ _ _ _ _ _ _ _ A m c1 wr p acc hend ⟨hS, hO, hRw, hg6, hB, hbs, HT.out⟩
end Go.Proofs.YtclkgflficlmiaaDoor
end

/-! ## DecWits -/
section
set_option maxRecDepth 100000
set_option linter.unusedVariables false
namespace Go.Proofs.YtclkgflficlmiaaDoor
open Go Go.RowKit
/-- The first rows hold the witnesses of ys, the rest none. -/
def WitSt (w : World) (lo r gi k : Nat) (xs ys : List TIn) (vs : List Value) : Prop :=
  vs.length = xs.length ∧ ys.length = k ∧ RowW w gi xs vs ∧ (∀ (i : Nat) (x y : TIn) (v : Value), xs[i]? = some x → ys[i]? = some y → vs[i]? = some v → ∃ cs, inK.K (fun b => lo ≤ b ∧ b ≠ r ∧ b ≠ gi) w y cs ∧ cs = inCells x v) ∧ (∀ i, k ≤ i → i < xs.length → vs[i]? = some (.slice none 0 0))
noncomputable def decB4 : Code := ((Tryd.f37.body.bind (findBk 4)).getD .skip)
set_option maxHeartbeats 8000000 in
theorem dec_wits {u0 u1 u2 u3 u4 u7 u8 u9 u10 u11 u12 u13 u14 u15 u16 u17 u18 u19 u20 u21 u22 u23 u24 u25 u26 u27 u28 u29 u30 u31 u32 u33 u34 u35 u36 u37 u38 u39 u40 u41 u42 u43 u44 u45 u46 u47 u48 u49 u50 u51 u52 u53 u54 u55 u56 u57 u58 u59 u60 u61 u62 u63 u64 u65 u66 u67 u68 u69 u70 u71 u72 u73 u74 u75 u76 u77 u78 u79 u80 u81 u82 u83 u84 u85 u86 u87 u88 u89 u90 u91 u92 u93 u94 u95 u96 u97 u98 u99 u100 u101 u102 u103 u104 u105 u106 u107 u108 u109 u110 u111 u112 u113 u114 u115 u116 u119 u120 u121 u122 u123 u124 u125 u126 u127 u128 u129 u130 u131 u132 u133 u134 u135 u136 u137 u138 u139 u140 u141 u142 u143 u144 u145 u146 u147 u148 u149 u150 u151 u152 u153 u154 u155 u156 u157 u158 u159 u160 u161 u162 u163 u164 u165 u166 u167 u168 u169 u170 u171 u172 u173 u174 u175 u176 u177 u178 u179 u180 u181 u182 u183 u184 u185 u186 u187 u188 u189 u190 u191 u192 u193 u194 u195 u196 u197 u198 u199 u200 u201 u202 u203 u204 u205 u206 u207 u208 u209 u210 u211 : Value} (w wr0 : World) (r D g6 gi base N c : Nat) (ver : Int) (v2 : Value) (xs : List TIn) (p0 : PSt) (hwr : w.heap.size ≤ r) (hw6 : w.heap.size ≤ g6) (hwg : w.heap.size ≤ gi) (hr6 : r ≠ g6) (hrg : r ≠ gi) (h6g : g6 ≠ gi) (hrb : r < base) (h6b : g6 < base) (hgb : gi < base) (hDw : D < w.heap.size) (hbase : base ≤ wr0.heap.size)
    (hN : xs.length = N) (hNc : N ≤ c) (hcm : c ≤ maxLen) (hok : ∀ x ∈ xs, x.Ok) (hN4 : N ≤ 1024)
    (hS0 : RSt wr0 r D p0) (hg0 : wr0.heap[g6]? = some (.cells (tCells ver (.slice (some ⟨gi, 0, none⟩) N c) v2 0) 54)) (hR0 : RowW wr0 gi xs (List.replicate N (.slice none 0 0))) (hb0 : Below w.heap.size w wr0) (Q0 : Exit → Act → World → Prop)
    (hexit : ∀ x10 x118 x119 x120 x121 x122 x123 x124 x125 x126 x127 x128 x129 x130 x131 x132 x133 x134 x135 x136 x137 x138 x139 x140 x141 x142 x143 x144 x145 x146 vs ys wr p, allW xs p0 = (ys, p) → RSt wr r D p → WitSt wr base r gi N xs ys vs → wr.heap[g6]? = some (.cells (tCells ver (.slice (some ⟨gi, 0, none⟩) N c) v2 0) 54) → Below w.heap.size w wr → Two0 wr0 r gi base wr → Q0 .normal ⟨#[u0, u1, u2, u3, u4, .pointer (some ⟨r, 0, none⟩), .pointer (some ⟨g6, 0, none⟩), u7, u8, u9, x10, u11, u12, u13, u14, u15, u16, u17, u18, u19, u20, u21, u22, u23, u24, u25, u26, u27, u28, u29, u30, u31, u32, u33, u34, u35, u36, u37, u38, u39, u40, u41, u42, u43, u44, u45, u46, u47, u48, u49, u50, u51, u52, u53, u54, u55, u56, u57, u58, u59, u60, u61, u62, u63, u64, u65, u66, u67, u68, u69, u70, u71, u72, u73, u74, u75, u76, u77, u78, u79, u80, u81, u82, u83, u84, u85, u86, u87, u88, u89, u90, u91, u92, u93, u94, u95, u96, u97, u98, u99, u100, u101, u102, u103, u104, u105, u106, u107, u108, u109, u110, u111, u112, u113, u114, u115, u116, .int .i64 N, x118, x119, x120, x121, x122, x123, x124, x125, x126, x127, x128, x129, x130, x131, x132, x133, x134, x135, x136, x137, x138, x139, x140, x141, x142, x143, x144, x145, x146, u147, u148, u149, u150, u151, u152, u153, u154, u155, u156, u157, u158, u159, u160, u161, u162, u163, u164, u165, u166, u167, u168, u169, u170, u171, u172, u173, u174, u175, u176, u177, u178, u179, u180, u181, u182, u183, u184, u185, u186, u187, u188, u189, u190, u191, u192, u193, u194, u195, u196, u197, u198, u199, u200, u201, u202, u203, u204, u205, u206, u207, u208, u209, u210, u211], []⟩ wr) :
    Code.wp Tryd.prog decB4 Q0 ⟨#[u0, u1, u2, u3, u4, .pointer (some ⟨r, 0, none⟩), .pointer (some ⟨g6, 0, none⟩), u7, u8, u9, u10, u11, u12, u13, u14, u15, u16, u17, u18, u19, u20, u21, u22, u23, u24, u25, u26, u27, u28, u29, u30, u31, u32, u33, u34, u35, u36, u37, u38, u39, u40, u41, u42, u43, u44, u45, u46, u47, u48, u49, u50, u51, u52, u53, u54, u55, u56, u57, u58, u59, u60, u61, u62, u63, u64, u65, u66, u67, u68, u69, u70, u71, u72, u73, u74, u75, u76, u77, u78, u79, u80, u81, u82, u83, u84, u85, u86, u87, u88, u89, u90, u91, u92, u93, u94, u95, u96, u97, u98, u99, u100, u101, u102, u103, u104, u105, u106, u107, u108, u109, u110, u111, u112, u113, u114, u115, u116, .int .i64 N, .int .i64 0, u119, u120, u121, u122, u123, u124, u125, u126, u127, u128, u129, u130, u131, u132, u133, u134, u135, u136, u137, u138, u139, u140, u141, u142, u143, u144, u145, u146, u147, u148, u149, u150, u151, u152, u153, u154, u155, u156, u157, u158, u159, u160, u161, u162, u163, u164, u165, u166, u167, u168, u169, u170, u171, u172, u173, u174, u175, u176, u177, u178, u179, u180, u181, u182, u183, u184, u185, u186, u187, u188, u189, u190, u191, u192, u193, u194, u195, u196, u197, u198, u199, u200, u201, u202, u203, u204, u205, u206, u207, u208, u209, u210, u211], []⟩ wr0 := by
  have HE := Lib.hid hexit
  clear hexit
  have hW0 : WitSt wr0 base r gi 0 xs [] (List.replicate N (.slice none 0 0)) := ⟨by rw [List.length_replicate, hN], rfl, hR0, fun i x y v _ h => by simp at h, fun i _ h => by rw [List.getElem?_replicate, if_pos (by omega)]⟩
  have hT0 : Two0 wr0 r gi base wr0 := fun _ _ _ _ => rfl
  conv => arg 2; whnf
  go_wp2
  go_loopw [118] (fun v118 wr => ∃ (k : Nat) (p : PSt) (ys : List TIn) (vs : List Value), k ≤ N ∧ v118 = .int .i64 k ∧ Hid (allW xs p0 = (ys ++ (allW (xs.drop k) p).1, (allW (xs.drop k) p).2)) ∧ RSt wr r D p ∧ WitSt wr base r gi k xs ys vs ∧ wr.heap[g6]? = some (.cells (tCells ver (.slice (some ⟨gi, 0, none⟩) N c) v2 0) 54) ∧ Below w.heap.size w wr ∧ base ≤ wr.heap.size ∧ Two0 wr0 r gi base wr) (fun v _ => N - (intOf v).toNat)
  case atStart => exact ⟨0, p0, [], _, by omega, rfl, Lib.hid (by simp), hS0, hW0, hg0, hb0, hbase, hT0⟩
  case round =>
    clear hS0 hW0 hg0 hb0 hbase hT0 hR0
    obtain ⟨k, p, ys, vs, hk, rfl, HR, hS, hW, hg6, hB, hbs, hT⟩ := hrel
    have HT := Lib.hid hT
    have HW := Lib.hid hW
    clear hT hW
    by_cases hlt : k < N
    · have hlt' : (k : Int) < (N : Int) := by omega
      go_wp2_with fail
      refine (count_calls _ r D p 100 (by decide) hS _ rfl).mono ?_
      rintro e w3 ⟨rfl, hS3, hG3⟩
      go_upto_block 6 with fail
      have hgi : gi < wr.heap.size := by omega
      have hs3 := hG3.size
      have hcv : p.countV 100 ≤ 100 := PSt.countV_le p 100
      have hvk : vs[k]? = some (.slice none 0 0) := HW.out.2.2.2.2 k (Nat.le_refl _) (by omega)
      have hvset : vs.set k (.slice none 0 0) = vs := by
        apply List.ext_getElem?
        intro i
        rw [List.getElem?_set]
        split
        · subst_vars
          split
          · exact hvk.symm
          · rename_i h; exact (h (List.getElem?_eq_some_iff.1 hvk).1).elim
        · rfl
      have hR3 : RowW w3 gi xs (vs.set k (.slice none 0 0)) := by
        rw [hvset]
        exact HW.out.2.2.1.move (hG3.block gi hgi (fun e => hrg (Option.some.inj e).symm))
      have hg3 := heap_grown hG3 hg6 (fun e => hr6 (Option.some.inj e).symm)
      have hB3 := hB.grown hG3 hB.size (fun q e => by cases e; exact hwr)
      refine dec_wit w w3 r D g6 gi w3.heap.size (p.countV 100) k N c ver v2 xs vs (p.count 100) hcv hwr hw6 hwg hr6 hrg h6g (by omega) (by omega) (by omega) hDw (Nat.le_refl _) (by omega) hN hNc hcm HW.out.1 (fun x hx => (hok x hx).idl) hS3 hg3 hR3 hB3 _ ?_
      intro y0 y1 y2 y3 y4 y5 y6 y7 y8 y9 y10 y11 y12 y13 y14 y15 y16 y17 y18 y19 y20 y21 y22 A9 m9 c9 w9 p9 acc hp9 hrel9
      obtain ⟨hS9, hO9, hR9, hg9, hB9, hbs9, hT9⟩ := hrel9
      have hxk : xs[k]? = some (xs[k]'(by omega)) := List.getElem?_eq_getElem (by omega)
      have hdrop : xs.drop k = (xs[k]'(by omega)) :: xs.drop (k + 1) := List.drop_eq_getElem_cons (by omega)
      obtain ⟨x, hx⟩ : ∃ x, xs[k]'(by omega) = x := ⟨_, rfl⟩
      rw [hx] at hxk hdrop
      have hkk : ∀ q, q < wr.heap.size → q ≠ r → q ≠ gi → w9.heap[q]? = wr.heap[q]? := fun q hq h1 h2 => (hT9 q (by omega) h1 h2).trans (hG3.block q hq (fun e => h1 (Option.some.inj e)))
      have hall : allW xs p0 = ((ys ++ [{ x with wit := acc }]) ++ (allW (xs.drop (k + 1)) p9).1, (allW (xs.drop (k + 1)) p9).2) := by
        have h1 : witP1 p = (acc, p9) := hp9
        rw [HR.out, hdrop, allW, h1, List.append_assoc]
        rfl
      have hC9 : RK.str.C (fun b => base ≤ b ∧ b ≠ r ∧ b ≠ gi) w9 A9 m9 acc := RK.Own.C_ hO9 (fun _ h => h.elim) (fun b hb => by have := (RK.Own.lt hO9 b hb).1; refine ⟨?_, ?_, ?_⟩ <;> omega)
      have hle9 := RK.Own.le_ hO9
      have hxo := hok x (List.mem_of_getElem? hxk)
      have hyo : ({ x with wit := acc } : TIn).Ok := ⟨hxo.idl, hxo.idb, hxo.o0, hxo.o1, hxo.s0, hxo.s1, hxo.sc, hC9.all_str⟩
      have hW9 : WitSt w9 base r gi (k + 1) xs (ys ++ [{ x with wit := acc }]) (vs.set k (.slice A9 m9 c9)) := by
        obtain ⟨q1, q2, q3, q4, q5⟩ := HW.out
        refine ⟨by rw [List.length_set]; exact q1, by rw [List.length_append, q2]; rfl, hR9, fun i x' y v hx' hy hv => ?_, fun i hi hiN => ?_⟩
        · rcases Nat.lt_trichotomy i k with hik | rfl | hik
          · rw [List.getElem?_append_left (by omega)] at hy
            rw [List.getElem?_set_ne (by omega)] at hv
            obtain ⟨cs, hK, hcs⟩ := q4 i x' y v hx' hy hv
            exact ⟨cs, inK.move (fun b hb hlt => hkk b hlt hb.2.1 hb.2.2) hK, hcs⟩
          · rw [List.getElem?_append_right (by omega), q2, Nat.sub_self] at hy
            rw [List.getElem?_set_self (by omega)] at hv
            obtain rfl : ({ x with wit := acc } : TIn) = y := by simpa using hy
            obtain rfl : Value.slice A9 m9 c9 = v := Option.some.inj hv
            obtain rfl : x = x' := Option.some.inj (hxk.symm.trans hx')
            exact ⟨_, ⟨A9, m9, c9, rfl, hyo, hle9.1, hle9.2, hC9⟩, rfl⟩
          · rw [List.getElem?_eq_none (by rw [List.length_append, q2, List.length_singleton]; omega)] at hy
            cases hy
        · rw [List.getElem?_set_ne (by omega)]
          exact q5 i (by omega) hiN
      have hT10 : Two0 wr0 r gi base w9 := fun q hq h1 h2 => (hkk q (by omega) h1 h2).trans (HT.out q hq h1 h2)
      have HALL := Lib.hid hall
      have HW9 := Lib.hid hW9
      have HT10 := Lib.hid hT10
      have hbs10 : base ≤ w9.heap.size := by omega
      clear hall hW9 hT10 hC9 hO9 hR9 hT9 hkk hdrop hxk hxo hyo hle9 hp9 hvk hR3 hg3 hB3 hS3 hG3 hs3 hvset hx HR HT HW hS hg6
      go_wp2
      go_roundw
      case rel => exact ⟨k + 1, p9, _, _, by omega, by go_num, HALL, hS9, HW9.out, hg9, hB9, hbs10, HT10.out⟩
      case measure => simp [intOf]; omega
    · have hlt' : ¬ ((k : Int) < (N : Int)) := by omega
      obtain rfl : k = N := by omega
      have hend : allW xs p0 = (ys, p) := by
        rw [HR.out, List.drop_of_length_le (by omega), allW, List.append_nil]
      go_wp2
      exact HE.out _ _ _ _ _ _ _ _ _ _ _ _ _ _ _ _ _ _ _ _ _ _ _ _ _ _ _ _ _ _ vs ys wr p hend hS HW.out hg6 hB HT.out
end Go.Proofs.YtclkgflficlmiaaDoor
end
