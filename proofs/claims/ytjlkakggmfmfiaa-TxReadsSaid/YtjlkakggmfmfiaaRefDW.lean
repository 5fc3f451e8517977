/- The reference's Decode: the witness of one input. -/
import Derived.Test.YtjlkakggmfmfiaaRefRow
set_option maxRecDepth 100000
set_option linter.unusedVariables false
namespace Go.Proofs.Ytjlkakggmfmfiaa
open Go Go.RowKit
noncomputable def rdB8 : Code := ((Try.f20.body.bind (findBk 8)).getD .skip)
set_option maxHeartbeats 16000000 in
theorem rd_wit {u0 u1 u2 u3 u4 u7 u8 u10 u11 u12 u13 u14 u17 u18 u19 u20 u21 u22 u23 u24 u25 u26 u27 u28 u29 u30 u31 u32 u33 u34 u35 u36 u37 u38 u39 u40 u41 u42 u43 u44 u45 u46 u47 u48 u49 u50 u51 u52 u53 u54 u55 u56 u57 u58 u59 u60 u61 u62 u63 u64 u65 u66 u67 u68 u69 u70 u71 u72 u73 u74 u75 u76 u77 u78 u79 u80 u81 u82 u83 u84 u85 u86 u87 u88 u89 u90 u91 u92 u93 u94 u95 u96 u97 u98 u99 u100 u101 u102 u103 u104 u105 u106 u107 u108 u109 u110 u111 u112 u113 u114 u115 u116 u117 u118 u119 u120 u121 u122 u123 u124 u125 u126 u127 u128 u129 u130 u131 u132 u133 u134 u135 u136 u137 u138 u139 u140 u141 u142 u143 u144 u145 u146 u147 u148 u149 u150 u151 u152 u153 u154 u155 u156 u157 u158 u159 u160 u161 u162 u163 u164 u165 u166 u167 u168 u169 u170 u171 u172 u173 u174 u175 u176 u177 u178 u179 u180 u181 u182 u183 u184 u185 u186 u187 u188 u189 u190 u191 u192 u193 u194 u195 u196 u197 u198 u199 u200 u201 u202 u203 u204 u205 u206 u207 u208 u209 u210 u211 u212 u213 u214 u215 u216 u217 u218 u219 u220 u221 u222 u223 u224 u225 u226 u227 u228 u229 u230 u231 u232 u233 u234 u235 u236 u237 u238 u239 u240 u241 u242 u243 u244 u245 u246 u247 u248 u249 u250 u251 u252 u253 u254 u255 u256 u257 : Value} (w wr0 : World) (A0 : Option Addr) (m0 c0 : Nat) (bs : List Int) (hm0 : m0 ≤ 1000000) (hmc0 : m0 ≤ c0) (hr : Rd w A0 m0 (nums .u8 bs)) (hby : Bytes bs) (r5 g6 gi base n0 k N c at0 : Nat) (ver : Int) (v2 : Value) (xs : List TIn) (vs : List Value) (p0 : PSt) (hn0 : n0 ≤ 100) (h5 : w.heap.size ≤ r5) (h56 : r5 < g6) (h6g : g6 < gi) (hgb : gi < base) (hbase : base ≤ wr0.heap.size)
    (hk : k < xs.length) (hN : xs.length = N) (hNc : N ≤ c) (hcm : c ≤ maxLen) (hvl : vs.length = xs.length) (hi : ∀ x ∈ xs, x.id.length = 32)
    (hS0 : Sim bs at0 p0) (hb0s : Bytes p0.bs) (gP0 : wr0.heap[r5]? = some (.cells (plL A0 m0 c0 at0 p0.e).toArray 82)) (hg0 : wr0.heap[g6]? = some (.cells (tCells ver (.slice (some ⟨gi, 0, none⟩) N c) v2 0) 46)) (hR0 : RowWR wr0 gi xs (vs.set k (.slice none 0 0))) (hb0 : Below w.heap.size w wr0) (Q0 : Exit → Act → World → Prop)
    (hexit : ∀ x16 x17 x178 x179 x180 x181 x182 x183 x184 x185 x186 x187 x188 x189 x190 x191 x192 x193 x194 x195 x196 x197 x198 x199 x200 x201 x202 x203 x204 x205 x206 A m c1 wr p at_ acc, witsP n0 p0 = (acc, p) → Bytes p.bs → Sim bs at_ p ∧ wr.heap[r5]? = some (.cells (plL A0 m0 c0 at_ p.e).toArray 82) ∧ StrOwn wr base (.slice A m c1) m acc ∧ RowWR wr gi xs (vs.set k (.slice A m c1)) ∧ wr.heap[g6]? = some (.cells (tCells ver (.slice (some ⟨gi, 0, none⟩) N c) v2 0) 46) ∧ Below w.heap.size w wr ∧ base ≤ wr.heap.size ∧ Hid (Two0 wr0 r5 gi base wr) → Q0 .normal ⟨#[u0, u1, u2, u3, u4, .pointer (some ⟨r5, 0, none⟩), .pointer (some ⟨g6, 0, none⟩), u7, u8, .int .i64 n0, u10, u11, u12, u13, u14, .int .i64 k, x16, x17, u18, u19, u20, u21, u22, u23, u24, u25, u26, u27, u28, u29, u30, u31, u32, u33, u34, u35, u36, u37, u38, u39, u40, u41, u42, u43, u44, u45, u46, u47, u48, u49, u50, u51, u52, u53, u54, u55, u56, u57, u58, u59, u60, u61, u62, u63, u64, u65, u66, u67, u68, u69, u70, u71, u72, u73, u74, u75, u76, u77, u78, u79, u80, u81, u82, u83, u84, u85, u86, u87, u88, u89, u90, u91, u92, u93, u94, u95, u96, u97, u98, u99, u100, u101, u102, u103, u104, u105, u106, u107, u108, u109, u110, u111, u112, u113, u114, u115, u116, u117, u118, u119, u120, u121, u122, u123, u124, u125, u126, u127, u128, u129, u130, u131, u132, u133, u134, u135, u136, u137, u138, u139, u140, u141, u142, u143, u144, u145, u146, u147, u148, u149, u150, u151, u152, u153, u154, u155, u156, u157, u158, u159, u160, u161, u162, u163, u164, u165, u166, u167, u168, u169, u170, u171, u172, u173, u174, u175, u176, u177, x178, x179, x180, x181, x182, x183, x184, x185, x186, x187, x188, x189, x190, x191, x192, x193, x194, x195, x196, x197, x198, x199, x200, x201, x202, x203, x204, x205, x206, u207, u208, u209, u210, u211, u212, u213, u214, u215, u216, u217, u218, u219, u220, u221, u222, u223, u224, u225, u226, u227, u228, u229, u230, u231, u232, u233, u234, u235, u236, u237, u238, u239, u240, u241, u242, u243, u244, u245, u246, u247, u248, u249, u250, u251, u252, u253, u254, u255, u256, u257], []⟩ wr) :
    Code.wp Try.prog rdB8 Q0 ⟨#[u0, u1, u2, u3, u4, .pointer (some ⟨r5, 0, none⟩), .pointer (some ⟨g6, 0, none⟩), u7, u8, .int .i64 n0, u10, u11, u12, u13, u14, .int .i64 k, .int .i64 0, u17, u18, u19, u20, u21, u22, u23, u24, u25, u26, u27, u28, u29, u30, u31, u32, u33, u34, u35, u36, u37, u38, u39, u40, u41, u42, u43, u44, u45, u46, u47, u48, u49, u50, u51, u52, u53, u54, u55, u56, u57, u58, u59, u60, u61, u62, u63, u64, u65, u66, u67, u68, u69, u70, u71, u72, u73, u74, u75, u76, u77, u78, u79, u80, u81, u82, u83, u84, u85, u86, u87, u88, u89, u90, u91, u92, u93, u94, u95, u96, u97, u98, u99, u100, u101, u102, u103, u104, u105, u106, u107, u108, u109, u110, u111, u112, u113, u114, u115, u116, u117, u118, u119, u120, u121, u122, u123, u124, u125, u126, u127, u128, u129, u130, u131, u132, u133, u134, u135, u136, u137, u138, u139, u140, u141, u142, u143, u144, u145, u146, u147, u148, u149, u150, u151, u152, u153, u154, u155, u156, u157, u158, u159, u160, u161, u162, u163, u164, u165, u166, u167, u168, u169, u170, u171, u172, u173, u174, u175, u176, u177, u178, u179, u180, u181, u182, u183, u184, u185, u186, u187, u188, u189, u190, u191, u192, u193, u194, u195, u196, u197, u198, u199, u200, u201, u202, u203, u204, u205, u206, u207, u208, u209, u210, u211, u212, u213, u214, u215, u216, u217, u218, u219, u220, u221, u222, u223, u224, u225, u226, u227, u228, u229, u230, u231, u232, u233, u234, u235, u236, u237, u238, u239, u240, u241, u242, u243, u244, u245, u246, u247, u248, u249, u250, u251, u252, u253, u254, u255, u256, u257], []⟩ wr0 := by
  have HE := Lib.hid hexit
  clear hexit
  have hU := Try.underlying82
  have hE0 : StrOwn wr0 base (.slice none 0 0) 0 [] := RK.Own.nil _ _ _ _ _
  have hT0 : Two0 wr0 r5 gi base wr0 := fun _ _ _ _ => rfl
  conv => arg 2; whnf
  go_wp2
  go_loopw [16] (fun v16 wr => ∃ (j at_ : Nat) (p : PSt) (acc : List ByteArray) (A : Option Addr) (m c1 : Nat), j ≤ n0 ∧ v16 = .int .i64 j ∧ m = j ∧ Hid (witsP n0 p0 = (acc ++ (witsP (n0 - j) p).1, (witsP (n0 - j) p).2)) ∧ Hid (Bytes p.bs) ∧ Sim bs at_ p ∧ wr.heap[r5]? = some (.cells (plL A0 m0 c0 at_ p.e).toArray 82) ∧ StrOwn wr base (.slice A m c1) m acc ∧ RowWR wr gi xs (vs.set k (.slice A m c1)) ∧ wr.heap[g6]? = some (.cells (tCells ver (.slice (some ⟨gi, 0, none⟩) N c) v2 0) 46) ∧ Below w.heap.size w wr ∧ base ≤ wr.heap.size ∧ Hid (Two0 wr0 r5 gi base wr)) (fun v _ => n0 - (intOf v).toNat)
  case atStart => exact ⟨0, at0, p0, [], none, 0, 0, by omega, rfl, rfl, Lib.hid (by simp), Lib.hid hb0s, hS0, gP0, hE0, hR0, hg0, hb0, hbase, Lib.hid hT0⟩
  case round =>
    clear hS0 hE0 hR0 hg0 hb0 hbase hT0 gP0 hb0s
    obtain ⟨j, at_, p, acc, A, m, c1, hj, rfl, hmj, HR, HBS, hS, gP, hO, hRw, hg6, hB, hbs, HT⟩ := hrel
    have e2 : wr.cell? ⟨r5, 2, none⟩ = some (.int .i64 p.e) := blk_cell gP rfl
    by_cases hlt : j < n0
    · have hlt' : decide ((j : Int) < (n0 : Int)) = true := decide_eq_true (by omega)
      by_cases he : p.e = 0
      · have he1 : (p.e == 0) = true := beq_iff_eq.2 he
        have hstep : witsP n0 p0 = (acc ++ [strOfNums p.textB] ++ (witsP (n0 - (j + 1)) p.text).1, (witsP (n0 - (j + 1)) p.text).2) := by
          rw [HR.out, show n0 - j = (n0 - (j + 1)) + 1 by omega, witsP, if_neg (by rw [he]; decide), List.append_assoc]
          rfl
        have HST := Lib.hid hstep
        have hmJ := Lib.hid hmj
        have HE0 := Lib.hid he
        have hgw := heap_lt hg6
        have hml : m + 1 ≤ 101 := by omega
        have HV := Lib.hid hvl
        have hF0 := World.grownBy.refl wr (some r5)
        have hbsr := hbs
        clear hstep he hmj hvl
        go_upto_region 44 with fail
        go_wp2_with (first | ((with_reducible refine wpList_at 189 ?_); refine wpList_load_row rfl 82 (.tmp 5) rfl r5 rfl 82 _ _ _ gP hU rfl (info_plA _ _ _ _ _) ?_))
        refine (text_calls07 _ A0 m0 c0 bs hmc0 hm0 (hr.below hB) hby at_ p hS).mono ?_
        rintro e v1 ⟨a1, rfl, hS1, hbn1⟩
        have gQ1 := heap_below hbn1 gP
        have hBQ1 := below_then hB hB.size hbn1
        have hFQ1 := grown_trans hF0 (grown_of_below hbn1 (some r5))
        have g6q1 := heap_below hbn1 hg6
        have hzq1 := Nat.le_trans hbs hbn1.size
        clear gP hB hF0 hbs hg6 hbn1
        go_upto_region 45 with (first | ((with_reducible refine wpList_atS 5 ?_); refine wpList_store_any rfl 82 (.tmp 5) (.tmp 192) rfl r5 (plL A0 m0 c0 a1 (p.text).e).toArray rfl rfl 82 _ gQ1 (info_plA _ _ _ _ _) rfl (pl_all _ _ _ _ _) ?_; intro y2 gP2 htP2))
        have hBP2 := htP2.below hBQ1 h5
        have hFP2 := grown_trans hFQ1 htP2.grown
        have g6p2 := htP2.keep g6q1 (by omega)
        have hzp2 : base ≤ y2.heap.size := by rw [htP2.size]; exact hzq1
        clear gQ1 hBQ1 hFQ1 hzq1 g6q1 htP2
        have hRw8 : RowWR y2 gi xs (vs.set k (.slice A m c1)) := hRw.move (hFP2.block gi (by omega) (fun e => by have := Option.some.inj e; omega))
        have hO8 : StrOwn _ base (.slice A m c1) m acc := RK.Own.grown_ hO hFP2 (fun q e => by cases e; omega)
        have hT8 : Hid (Two0 wr0 r5 gi base y2) := Lib.hid fun q hq h1 h2 => (hFP2.block q (by omega) (fun e => h1 (Option.some.inj e))).trans (HT.out q hq h1 h2)
        have hg8 := g6p2
        have hP8 := gP2
        have hB8 := hBP2
        have hz8 := hzp2
        clear gP2 hBP2 hFP2 hzp2 g6p2 hRw hO hS e2
        refine wp_gen (q := fun W => W.heap[g6]? = some (.cells (tCells ver (.slice (some ⟨gi, 0, none⟩) N c) v2 0) 46) ∧ RowWR W gi xs (vs.set k (.slice A m c1)) ∧ W.heap[r5]? = some (.cells (plL A0 m0 c0 a1 p.text.e).toArray 82) ∧ StrOwn W base (.slice A m c1) m acc ∧ base ≤ W.heap.size ∧ Below w.heap.size w W ∧ Hid (Two0 wr0 r5 gi base W)) ⟨hg8, hRw8, hP8, hO8, hz8, hB8, hT8⟩ (fun W hw => ?_)
        clear hg8 hRw8 hP8 hO8 hz8 hB8 hT8
        obtain ⟨hg8, hRw8, hP8, hO8, hz8, hB8, HT8⟩ := hw
        have hx : xs[k]? = some (xs[k]'hk) := List.getElem?_eq_getElem hk
        have hvs : (vs.set k (.slice A m c1))[k]? = some (.slice A m c1) := by rw [List.getElem?_set_self (by have := HV.out; omega)]
        have cW := hRw8.cell (by rw [List.length_set]; exact HV.out) hi hx hvs
        have cT := blk_cell hg8 (i := 1) (v := .slice (some ⟨gi, 0, none⟩) N c) rfl
        have hkN : (k : Int) < (N : Int) := by omega
        clear hx hvs
        refine wp_region_noPanic ?_
        refine wp_region_heldU (fun w' => w'.cell? ⟨g6, 1, none⟩ = some (.slice (some ⟨gi, 0, none⟩) N c) ∧ w'.cell? ⟨gi, k * 36 + 35, none⟩ = some (.slice A m c1)) 14 (by kernel_rfl) ⟨cT, cW⟩ (fun hHeld => ?_)
        -- 0: ref.go:228 slot 193 := Op.fieldAddr 46 t6 1
        refine wpAnyU_take (i := 0) (oi := ⟨some 193, _, _, _, _, _⟩) (v := ?_) rfl (by kernel_rfl) (by kernel_rfl) (by kernel_rfl) (by kernel_rfl) (fun _ _ _ h => h) (Or.inl ⟨by rfl, ?_⟩) (by assumption) ?_
        rotate_left 1
        · intro w hSw; (try dsimp only at hSw); go_simp; try with_reducible rfl
        simp only [Act.put, List.setIfInBounds_toArray, List.set_cons_zero, List.set_cons_succ]
        -- 1: ref.go:228 slot 194 := Op.load 43 t193
        refine wpAnyU_take (i := 1) (oi := ⟨some 194, _, _, _, _, _⟩) (v := ?_) rfl (by kernel_rfl) (by kernel_rfl) (by kernel_rfl) (by kernel_rfl) (fun _ _ _ h => h) (Or.inl ⟨by rfl, ?_⟩) (by assumption) ?_
        rotate_left 1
        · intro w hSw; (try dsimp only at hSw); go_simp; try with_reducible rfl
        simp only [Act.put, List.setIfInBounds_toArray, List.set_cons_zero, List.set_cons_succ]
        -- 2: ref.go:228 slot 195 := Op.move t15
        refine wpAnyU_take (i := 2) (oi := ⟨some 195, _, _, _, _, _⟩) (v := ?_) rfl (by kernel_rfl) (by kernel_rfl) (by kernel_rfl) (by kernel_rfl) (fun _ _ _ h => h) (Or.inl ⟨by rfl, ?_⟩) (by assumption) ?_
        rotate_left 1
        · intro w hSw; (try dsimp only at hSw); go_simp; try with_reducible rfl
        simp only [Act.put, List.setIfInBounds_toArray, List.set_cons_zero, List.set_cons_succ]
        -- 3: ref.go:228 slot 196 := Op.fieldAddr 46 t6 1
        refine wpAnyU_take (i := 3) (oi := ⟨some 196, _, _, _, _, _⟩) (v := ?_) rfl (by kernel_rfl) (by kernel_rfl) (by kernel_rfl) (by kernel_rfl) (fun _ _ _ h => h) (Or.inl ⟨by rfl, ?_⟩) (by assumption) ?_
        rotate_left 1
        · intro w hSw; (try dsimp only at hSw); go_simp; try with_reducible rfl
        simp only [Act.put, List.setIfInBounds_toArray, List.set_cons_zero, List.set_cons_succ]
        -- 4: ref.go:228 slot 197 := Op.load 43 t196
        refine wpAnyU_take (i := 4) (oi := ⟨some 197, _, _, _, _, _⟩) (v := ?_) rfl (by kernel_rfl) (by kernel_rfl) (by kernel_rfl) (by kernel_rfl) (fun _ _ _ h => h) (Or.inl ⟨by rfl, ?_⟩) (by assumption) ?_
        rotate_left 1
        · intro w hSw; (try dsimp only at hSw); go_simp; try with_reducible rfl
        simp only [Act.put, List.setIfInBounds_toArray, List.set_cons_zero, List.set_cons_succ]
        -- 5: ref.go:228 slot 198 := Op.move t15
        refine wpAnyU_take (i := 5) (oi := ⟨some 198, _, _, _, _, _⟩) (v := ?_) rfl (by kernel_rfl) (by kernel_rfl) (by kernel_rfl) (by kernel_rfl) (fun _ _ _ h => h) (Or.inl ⟨by rfl, ?_⟩) (by assumption) ?_
        rotate_left 1
        · intro w hSw; (try dsimp only at hSw); go_simp; try with_reducible rfl
        simp only [Act.put, List.setIfInBounds_toArray, List.set_cons_zero, List.set_cons_succ]
        -- 6: ref.go:228 slot 199 := Op.indexAddr 43 t197 t198
        refine wpAnyU_take (i := 6) (oi := ⟨some 199, _, _, _, _, _⟩) (v := ?_) rfl (by kernel_rfl) (by kernel_rfl) (by kernel_rfl) (by kernel_rfl) (fun _ _ _ h => h) (Or.inl ⟨by rfl, ?_⟩) (by assumption) ?_
        rotate_left 1
        · intro w hSw; (try dsimp only at hSw); go_simp; try with_reducible rfl
        simp only [Act.put, List.setIfInBounds_toArray, List.set_cons_zero, List.set_cons_succ]
        -- 7: ref.go:228 slot 200 := Op.fieldAddr 69 t199 4
        refine wpAnyU_take (i := 7) (oi := ⟨some 200, _, _, _, _, _⟩) (v := ?_) rfl (by kernel_rfl) (by kernel_rfl) (by kernel_rfl) (by kernel_rfl) (fun _ _ _ h => h) (Or.inl ⟨by rfl, ?_⟩) (by assumption) ?_
        rotate_left 1
        · intro w hSw; (try dsimp only at hSw); go_simp; try with_reducible rfl
        simp only [Act.put, List.setIfInBounds_toArray, List.set_cons_zero, List.set_cons_succ]
        -- 8: ref.go:228 slot 201 := Op.load 59 t200
        refine wpAnyU_take (i := 8) (oi := ⟨some 201, _, _, _, _, _⟩) (v := ?_) rfl (by kernel_rfl) (by kernel_rfl) (by kernel_rfl) (by kernel_rfl) (fun _ _ _ h => h) (Or.inl ⟨by rfl, ?_⟩) (by assumption) ?_
        rotate_left 1
        · intro w hSw; (try dsimp only at hSw); go_simp; try with_reducible rfl
        simp only [Act.put, List.setIfInBounds_toArray, List.set_cons_zero, List.set_cons_succ]
        -- 9: ref.go:228 slot 202 := Op.move t17
        refine wpAnyU_take (i := 9) (oi := ⟨some 202, _, _, _, _, _⟩) (v := ?_) rfl (by kernel_rfl) (by kernel_rfl) (by kernel_rfl) (by kernel_rfl) (fun _ _ _ h => h) (Or.inl ⟨by rfl, ?_⟩) (by assumption) ?_
        rotate_left 1
        · intro w hSw; (try dsimp only at hSw); go_simp; try with_reducible rfl
        simp only [Act.put, List.setIfInBounds_toArray, List.set_cons_zero, List.set_cons_succ]
        -- 10: ref.go:228 slot 203 := Op.buildSlice 59 1 #[(0, t202)]
        refine wpAnyU_ready (i := 10) (o := ⟨some 203, _, _, _, _, _⟩) (by kernel_rfl) rfl (by decide) (fun K hK => ?_)
        go_simp
        have hgr := World.grownBy_alloc W.drew (.cells #[.string (strOfNums p.textB)] 9) none
        have hT2 := cell_grown hgr hHeld.1 (by simp)
        have hW2 := cell_grown hgr hHeld.2 (by simp)
        refine hK.out _ _ ⟨hT2, hW2⟩ (fun hHeld' => ?_)
        clear hHeld
        have hHeld := hHeld'
        clear hHeld'
        clear hK K
        try (simp only [Act.put, List.setIfInBounds_toArray, List.set_cons_zero, List.set_cons_succ])
        -- 11: ref.go:228 slot 204 := Op.call { builtin append, args := #[t201, t203], argTypes := #[59, 59] }
        refine wpAnyU_ready (i := 11) (o := ⟨some 204, _, _, _, _, _⟩) (by kernel_rfl) rfl (by decide) (fun K hK => ?_)
        have hO2 : StrOwn (W.drew.alloc (.cells #[.string (strOfNums p.textB)] 9)) base (.slice A m c1) m acc := RK.Own.alloc (RK.Own.below hO8 (Below.drew (Below.refl _ _))) _
        have hC2 := str_one (heap_alloc_new W.drew (.cells #[.string (strOfNums p.textB)] 9)) (text_max p)
        have hlo : Hid (∀ q, (Value.slice A m c1).ownBlock = some q → base ≤ q) := Lib.hid fun q hq => (RK.Own.lt hO2 q hq).1
        refine RK.step_appK RK.str _ (by rfl) (.tmp 201) (.tmp 203) 59 (by rfl) (fun _ => False) base 9 (.string ⟨#[]⟩) 16 Try.underlying59 zinfo_str rfl (by decide) (.slice A m c1) m acc (by rfl) hO2 (fun k h => h.elim) _ 1 1 [strOfNums p.textB] (by rfl) (fun _ => True) hC2 (fun _ _ h => h) (m + 1) _ rfl rfl (by unfold maxLen; omega) (by omega) (by simp; omega) ?_
        intro A9 c9 w9 hO9 hG9 hat9
        have hT3 := cell_grown hG9 hT2 (fun e => by have := hlo.out _ e.symm; omega)
        have hW3 := cell_grown hG9 hW2 (fun e => by have := hlo.out _ e.symm; omega)
        have hRw9 : RowWR w9 gi xs (vs.set k (.slice A m c1)) := hRw8.move ((hG9.block gi (by simp; omega) (fun e => by have := hlo.out _ e.symm; omega)).trans ((World.grownBy_alloc W.drew _ none).block gi (by simp; omega) (by simp)))
        have f9 := hRw9.frozen (k * 36 + 35)
        refine hK.out _ _ ⟨hT3, hW3⟩ (fun hHeld' => ?_)
        clear hHeld
        have hHeld := hHeld'
        clear hHeld'
        clear hK K
        try (simp only [Act.put, List.setIfInBounds_toArray, List.set_cons_zero, List.set_cons_succ])
        -- 12: ref.go:228 slot 205 := Op.indexAddr 43 t194 t195
        refine wpAnyU_ready (i := 12) (o := ⟨some 205, _, _, _, _, _⟩) (by kernel_rfl) rfl (by decide) (fun K hK => ?_)
        go_simp
        refine hK.out _ _ hHeld (fun hHeld' => ?_)
        clear hHeld
        have hHeld := hHeld'
        clear hHeld'
        clear hK K
        try (simp only [Act.put, List.setIfInBounds_toArray, List.set_cons_zero, List.set_cons_succ])
        -- 13: ref.go:228 slot 206 := Op.fieldAddr 69 t205 4
        refine wpAnyU_take (i := 13) (oi := ⟨some 206, _, _, _, _, _⟩) (v := ?_) rfl (by kernel_rfl) (by kernel_rfl) (by kernel_rfl) (by kernel_rfl) (fun _ _ _ h => h) (Or.inl ⟨by rfl, ?_⟩) (by assumption) ?_
        rotate_left 1
        · intro w hSw; (try dsimp only at hSw); go_simp; try with_reducible rfl
        simp only [Act.put, List.setIfInBounds_toArray, List.set_cons_zero, List.set_cons_succ]
        -- 14: ref.go:228 slot none := Op.store 59 t206 t204
        refine wpAnyU_last (o := ⟨none, _, _, _, _, _⟩) (by kernel_rfl) rfl (fun K hK => ?_)
        have hW4 := hHeld.2
        go_simp
        refine hK.out _ _ ?_
        clear hK K
        try (simp only [Act.put])
        refine wpAnyU_done (by kernel_rfl) ?_ _
        refine NoPanic.normal ?_
        have hT9 := turned_setCell w9 gi (k * 36 + 35) (.slice A9 (m + 1) c9)
        have hWa : Below W.heap.size W (W.drew.alloc (.cells #[.string (strOfNums p.textB)] 9)) := (Below.drew (Below.refl _ _)).alloc (Nat.le_refl _) _
        have hP9 := heap_grown hG9 (heap_below hWa hP8) (fun e => by have := hlo.out r5 e.symm; omega)
        have hP10 := hT9.keep hP9 (by omega)
        have hg9 := heap_grown hG9 (heap_below hWa hg8) (fun e => by have := hlo.out g6 e.symm; omega)
        have hg10 := hT9.keep hg9 (by omega)
        have hO10 := RK.Own.grown_ hO9 hT9.grown (fun q e => by cases e; exact hgb)
        have hRw10 : RowWR (w9.setCell ⟨gi, k * 36 + 35, none⟩ (.slice A9 (m + 1) c9)) gi xs (vs.set k (.slice A9 (m + 1) c9)) := by
          have := hRw9.set (by rw [List.length_set]; exact HV.out) hi hk (.slice A9 (m + 1) c9)
          rwa [List.set_set] at this
        have hBa := below_then hB8 hB8.size hWa
        have hB9 := hBa.grown hG9 hBa.size (fun q e => by have := hlo.out q e; omega)
        have hB10 := hT9.below hB9 (by omega)
        have hs10 : base ≤ (w9.setCell ⟨gi, k * 36 + 35, none⟩ (.slice A9 (m + 1) c9)).heap.size := by have h1 := hG9.size; rw [hT9.size]; simp at h1; omega
        have hT10 : Hid (Two0 wr0 r5 gi base (w9.setCell ⟨gi, k * 36 + 35, none⟩ (.slice A9 (m + 1) c9))) := Lib.hid fun q hq hqr hqg =>
          (hT9.block q hqg).trans ((hG9.block q (by simp; omega) (fun e => by have := hlo.out q e.symm; omega)).trans ((hWa.block q (by omega)).trans (HT8.out q hq hqr hqg)))
        clear hHeld hW4 hT3 hW3 hG9 hat9 hO9 hRw9 f9 hO2 hC2 hT2 hW2 hgr hO8 hRw8 hg8 hP8 hP9 hg9 hB9 hBa hB8 hWa hT9 cW cT
        go_wp2
        go_roundw
        case rel => exact ⟨j + 1, a1, p.text, acc ++ [strOfNums p.textB], A9, m + 1, c9, by omega, by go_num, by rw [hmJ.out], HST, Lib.hid (PSt.text_bytes HBS.out), hS1, hP10, hO10, hRw10, hg10, hB10, hs10, hT10⟩
        case measure => simp [intOf]; omega
      · have he1 : (p.e == 0) = false := beq_eq_false_iff_ne.2 he
        have hstop : witsP n0 p0 = (acc, p) := by
          rw [HR.out, show n0 - j = (n0 - (j + 1)) + 1 by omega, witsP, if_pos he, List.append_nil]
        have HX1 := Lib.hid hstop
        clear he hstop
        go_wp2
        exact HE.out _ _ _ _ _ _ _ _ _ _ _ _ _ _ _ _ _ _ _ _ _ _ _ _ _ _ _ _ _ _ _ A m c1 wr p at_ acc HX1.out HBS.out ⟨hS, gP, hO, hRw, hg6, hB, hbs, HT⟩
    · have hlt' : decide ((j : Int) < (n0 : Int)) = false := decide_eq_false (by omega)
      have hend : witsP n0 p0 = (acc, p) := by
        rw [HR.out, show n0 - j = 0 by omega, witsP, List.append_nil]
      have HX1 := Lib.hid hend
      clear hend
      go_wp2
      exact HE.out _ _ _ _ _ _ _ _ _ _ _ _ _ _ _ _ _ _ _ _ _ _ _ _ _ _ _ _ _ _ _ A m c1 wr p at_ acc HX1.out HBS.out ⟨hS, gP, hO, hRw, hg6, hB, hbs, HT⟩
end Go.Proofs.Ytjlkakggmfmfiaa
