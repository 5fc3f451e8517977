/- The reference's Decode: what it hands back. -/
import Derived.Test.YtjlkakggmfmfiaaRefDV
import Derived.Test.YtjlkakggmfmfiaaRefHas07
set_option maxRecDepth 100000
set_option linter.unusedVariables false
namespace Go.Proofs.Ytjlkakggmfmfiaa
open Go Go.RowKit
theorem info_tx407 (x0 x1 x2 x3 : Value) : (Try.prog.info? 46).map (·.size) = some (#[x0, x1, x2, x3] : Array Value).size := by rw [show (#[x0, x1, x2, x3] : Array Value).size = 4 from rfl]; kernel_rfl
noncomputable def rdT53 : Code := ((Try.f20.body.bind (findT 53)).getD .skip)
set_option maxHeartbeats 8000000 in
theorem rd_end {u0 u1 u7 u8 u9 u10 u11 u12 u13 u14 u15 u16 u17 u18 u19 u20 u21 u22 u23 u24 u25 u26 u27 u28 u29 u30 u31 u32 u33 u34 u35 u36 u37 u38 u39 u40 u41 u42 u43 u44 u45 u46 u47 u48 u49 u50 u51 u52 u53 u54 u55 u56 u57 u58 u59 u60 u61 u62 u63 u64 u65 u66 u67 u68 u69 u70 u71 u72 u73 u74 u75 u76 u77 u78 u79 u80 u81 u82 u83 u84 u85 u86 u87 u88 u89 u90 u91 u92 u93 u94 u95 u96 u97 u98 u99 u100 u101 u102 u103 u104 u105 u106 u107 u108 u109 u110 u111 u112 u113 u114 u115 u116 u117 u118 u119 u120 u121 u122 u123 u124 u125 u126 u127 u128 u129 u130 u131 u132 u133 u134 u135 u136 u137 u138 u139 u140 u141 u142 u143 u144 u145 u146 u147 u148 u149 u150 u151 u152 u153 u154 u155 u156 u157 u158 u159 u160 u161 u162 u163 u164 u165 u166 u167 u168 u169 u170 u171 u172 u173 u174 u175 u176 u177 u178 u179 u180 u181 u182 u183 u184 u185 u186 u187 u188 u189 u190 u191 u192 u193 u194 u195 u196 u197 u198 u199 u200 u201 u202 u203 u204 u205 u206 u207 u208 u209 u210 u211 u212 u213 u214 u215 u216 u217 u218 u219 u220 u221 u222 u223 u224 u225 u226 u227 u228 u229 u230 u231 u232 u233 u234 u235 u236 u237 u238 u239 u240 u241 u242 u243 u244 u245 u246 u247 u248 u249 u250 u251 u252 u253 u254 u255 u256 u257 : Value} (w wr : World) (A : Option Addr) (m c at_ r5 g6 : Nat) (E : Int) (ver lock : Int) (A1 : Option Addr) (N1 c1 : Nat) (A2 : Option Addr) (N2 c2 : Nat)
    (h5 : w.heap.size < r5) (h56 : r5 < g6)
    (gP : wr.heap[r5]? = some (.cells (plL A m c at_ E).toArray 82)) (gT : wr.heap[g6]? = some (.cells (tCells ver (.slice A1 N1 c1) (.slice A2 N2 c2) lock) 46)) (hz : wr.heap[w.heap.size]? = some (.cells (tCells 0 (.slice none 0 0) (.slice none 0 0) 0) 46)) (hb : Below w.heap.size w wr) (Q0 : Exit → Act → World → Prop)
    (hexit : ∀ x249 x250 x251 x252 x253 x254 x255 x256 x257 nz ez cs w', nz = ((if E = 0 then at_ else 0 : Nat) : Int) → ez = E → w'.heap[w.heap.size]? = some (.cells cs.toArray 46) → cs.length = 4 → (E = 0 → cs = [.int .i32 ver, .slice A1 N1 c1, .slice A2 N2 c2, .int .u32 lock]) → (E ≠ 0 → cs = [.int .i32 0, .slice none 0 0, .slice none 0 0, .int .u32 0]) → Below w.heap.size w w' → (∀ k, k < wr.heap.size → k ≠ w.heap.size → w'.heap[k]? = wr.heap[k]?) → Q0 .ret ⟨#[u0, u1, .pointer (some ⟨w.heap.size, 0, none⟩), .int .i64 nz, .int .i64 ez, .pointer (some ⟨r5, 0, none⟩), .pointer (some ⟨g6, 0, none⟩), u7, u8, u9, u10, u11, u12, u13, u14, u15, u16, u17, u18, u19, u20, u21, u22, u23, u24, u25, u26, u27, u28, u29, u30, u31, u32, u33, u34, u35, u36, u37, u38, u39, u40, u41, u42, u43, u44, u45, u46, u47, u48, u49, u50, u51, u52, u53, u54, u55, u56, u57, u58, u59, u60, u61, u62, u63, u64, u65, u66, u67, u68, u69, u70, u71, u72, u73, u74, u75, u76, u77, u78, u79, u80, u81, u82, u83, u84, u85, u86, u87, u88, u89, u90, u91, u92, u93, u94, u95, u96, u97, u98, u99, u100, u101, u102, u103, u104, u105, u106, u107, u108, u109, u110, u111, u112, u113, u114, u115, u116, u117, u118, u119, u120, u121, u122, u123, u124, u125, u126, u127, u128, u129, u130, u131, u132, u133, u134, u135, u136, u137, u138, u139, u140, u141, u142, u143, u144, u145, u146, u147, u148, u149, u150, u151, u152, u153, u154, u155, u156, u157, u158, u159, u160, u161, u162, u163, u164, u165, u166, u167, u168, u169, u170, u171, u172, u173, u174, u175, u176, u177, u178, u179, u180, u181, u182, u183, u184, u185, u186, u187, u188, u189, u190, u191, u192, u193, u194, u195, u196, u197, u198, u199, u200, u201, u202, u203, u204, u205, u206, u207, u208, u209, u210, u211, u212, u213, u214, u215, u216, u217, u218, u219, u220, u221, u222, u223, u224, u225, u226, u227, u228, u229, u230, u231, u232, u233, u234, u235, u236, u237, u238, u239, u240, u241, u242, u243, u244, u245, u246, u247, u248, x249, x250, x251, x252, x253, x254, x255, x256, x257], []⟩ w') :
    Code.wp Try.prog rdT53 Q0 ⟨#[u0, u1, .pointer (some ⟨w.heap.size, 0, none⟩), .int .i64 0, .int .i64 0, .pointer (some ⟨r5, 0, none⟩), .pointer (some ⟨g6, 0, none⟩), u7, u8, u9, u10, u11, u12, u13, u14, u15, u16, u17, u18, u19, u20, u21, u22, u23, u24, u25, u26, u27, u28, u29, u30, u31, u32, u33, u34, u35, u36, u37, u38, u39, u40, u41, u42, u43, u44, u45, u46, u47, u48, u49, u50, u51, u52, u53, u54, u55, u56, u57, u58, u59, u60, u61, u62, u63, u64, u65, u66, u67, u68, u69, u70, u71, u72, u73, u74, u75, u76, u77, u78, u79, u80, u81, u82, u83, u84, u85, u86, u87, u88, u89, u90, u91, u92, u93, u94, u95, u96, u97, u98, u99, u100, u101, u102, u103, u104, u105, u106, u107, u108, u109, u110, u111, u112, u113, u114, u115, u116, u117, u118, u119, u120, u121, u122, u123, u124, u125, u126, u127, u128, u129, u130, u131, u132, u133, u134, u135, u136, u137, u138, u139, u140, u141, u142, u143, u144, u145, u146, u147, u148, u149, u150, u151, u152, u153, u154, u155, u156, u157, u158, u159, u160, u161, u162, u163, u164, u165, u166, u167, u168, u169, u170, u171, u172, u173, u174, u175, u176, u177, u178, u179, u180, u181, u182, u183, u184, u185, u186, u187, u188, u189, u190, u191, u192, u193, u194, u195, u196, u197, u198, u199, u200, u201, u202, u203, u204, u205, u206, u207, u208, u209, u210, u211, u212, u213, u214, u215, u216, u217, u218, u219, u220, u221, u222, u223, u224, u225, u226, u227, u228, u229, u230, u231, u232, u233, u234, u235, u236, u237, u238, u239, u240, u241, u242, u243, u244, u245, u246, u247, u248, u249, u250, u251, u252, u253, u254, u255, u256, u257], []⟩ wr := by
  have HE := Lib.hid hexit
  clear hexit
  have d1 := blk_cell gP (i := 1) (v := .int .i64 at_) rfl
  have d2 := blk_cell gP (i := 2) (v := .int .i64 E) rfl
  have g0 := blk_cell gT (i := 0) (v := .int .i32 ver) rfl
  have g1 := blk_cell gT (i := 1) (v := .slice A1 N1 c1) rfl
  have g2 := blk_cell gT (i := 2) (v := .slice A2 N2 c2) rfl
  have g3 := blk_cell gT (i := 3) (v := .int .u32 lock) rfl
  have hMI := info_tx407 (.int .i32 0) (.slice none 0 0) (.slice none 0 0) (.int .u32 0)
  have hMI2 := info_tx407 (.int .i32 ver) (.slice A1 N1 c1) (.slice A2 N2 c2) (.int .u32 lock)
  conv => arg 2; whnf
  by_cases he : E = 0
  · have he' : (E != 0) = false := by rw [he]; rfl
    have HEZ := Lib.hid he
    clear he
    go_upto_region 55 with fail
    refine wp_region_noPanic ?_
    refine wp_region_held_drew (S := fun wd => wd.cell? ⟨r5, 1, none⟩ = some (.int .i64 at_) ∧ wd.cell? ⟨g6, 0, none⟩ = some (.int .i32 ver) ∧ wd.cell? ⟨g6, 1, none⟩ = some (.slice A1 N1 c1) ∧ wd.cell? ⟨g6, 2, none⟩ = some (.slice A2 N2 c2) ∧ wd.cell? ⟨g6, 3, none⟩ = some (.int .u32 lock)) (by kernel_rfl) ⟨d1, g0, g1, g2, g3⟩ (fun hHeld => ?_)
    -- 0: ref.go:243 slot 255 := Op.load 46 t6
    refine wpAnyH_take (i := 0) (oi := ⟨some 255, _, _, _, _, _⟩) (v := ?_) rfl (by kernel_rfl) (by kernel_rfl) (by kernel_rfl) (fun _ _ _ h => h) (Or.inl ⟨by rfl, ?_⟩) (by assumption) ?_
    rotate_left 1
    · intro w hSw; (try dsimp only at hSw); go_simp; try with_reducible rfl
    simp only [Act.put, List.setIfInBounds_toArray, List.set_cons_zero, List.set_cons_succ]
    -- 1: ref.go:243 slot 256 := Op.fieldAddr 82 t5 1
    refine wpAnyH_take (i := 1) (oi := ⟨some 256, _, _, _, _, _⟩) (v := ?_) rfl (by kernel_rfl) (by kernel_rfl) (by kernel_rfl) (fun _ _ _ h => h) (Or.inl ⟨by rfl, ?_⟩) (by assumption) ?_
    rotate_left 1
    · intro w hSw; (try dsimp only at hSw); go_simp; try with_reducible rfl
    simp only [Act.put, List.setIfInBounds_toArray, List.set_cons_zero, List.set_cons_succ]
    -- 2: ref.go:243 slot 257 := Op.load 3 t256
    refine wpAnyH_take (i := 2) (oi := ⟨some 257, _, _, _, _, _⟩) (v := ?_) rfl (by kernel_rfl) (by kernel_rfl) (by kernel_rfl) (fun _ _ _ h => h) (Or.inl ⟨by rfl, ?_⟩) (by assumption) ?_
    rotate_left 1
    · intro w hSw; (try dsimp only at hSw); go_simp; try with_reducible rfl
    simp only [Act.put, List.setIfInBounds_toArray, List.set_cons_zero, List.set_cons_succ]
    -- 3: ref.go:243 slot none := Op.store 46 t2 t255
    refine wpAnyH_ready (rs := [3]) (by kernel_rfl) (by simp) ?_
    refine AllReadyH.cons (o := ⟨none, _, _, _, _, _⟩) rfl (fun K hK => ?_) AllReadyH.nil
    refine step_store_any (by rfl) 46 (.tmp 2) (.tmp 255) (by rfl) w.heap.size (tCells ver (.slice A1 N1 c1) (.slice A2 N2 c2) lock) (by rfl) (by rfl) 46 (tCells 0 (.slice none 0 0) (.slice none 0 0) 0) (show wr.drew.heap[w.heap.size]? = _ from hz) hMI2 rfl (one_tx4 _ _ _ _ _ _ _ _) ?_
    intro w3 hz3 ht3
    refine hK.out _ _ ⟨(ht3.cell (by omega)).trans d1, (ht3.cell (by omega)).trans g0, (ht3.cell (by omega)).trans g1, (ht3.cell (by omega)).trans g2, (ht3.cell (by omega)).trans g3⟩ (fun hHeld' => ?_)
    clear hHeld
    have hHeld := hHeld'
    clear hHeld'
    clear hK K
    try (simp only [Act.put])
    -- 4: ref.go:243 slot 3 := Op.assign t257
    refine wpAnyH_take (i := 4) (oi := ⟨some 3, _, _, _, _, _⟩) (v := ?_) rfl (by kernel_rfl) (by kernel_rfl) (by kernel_rfl) (fun _ _ _ h => h) (Or.inl ⟨by rfl, ?_⟩) (by assumption) ?_
    rotate_left 1
    · intro w hSw; (try dsimp only at hSw); go_simp; try with_reducible rfl
    simp only [Act.put, List.setIfInBounds_toArray, List.set_cons_zero, List.set_cons_succ]
    -- 5: ref.go:243 slot 4 := Op.assign (const (0:i64))
    refine wpAnyH_take (i := 5) (oi := ⟨some 4, _, _, _, _, _⟩) (v := ?_) rfl (by kernel_rfl) (by kernel_rfl) (by kernel_rfl) (fun _ _ _ h => h) (Or.inl ⟨by rfl, ?_⟩) (by assumption) ?_
    rotate_left 1
    · intro w hSw; (try dsimp only at hSw); go_simp; try with_reducible rfl
    simp only [Act.put, List.setIfInBounds_toArray, List.set_cons_zero, List.set_cons_succ]
    refine wpAnyH_done (by kernel_rfl) ?_ _
    refine NoPanic.normal ?_
    have hd : Below wr.heap.size wr wr.drew := Below.drew (Below.refl _ _)
    have hbz : Below w.heap.size w w3 := ht3.below (below_then hb hb.size hd) (Nat.le_refl _)
    have hKK : ∀ k, k < wr.heap.size → k ≠ w.heap.size → w3.heap[k]? = wr.heap[k]? := fun k hlt hne => (ht3.block k hne).trans (hd.block k hlt)
    have HKK := Lib.hid hKK
    clear hHeld hd hKK
    go_wp2
    exact HE.out _ _ _ _ _ _ _ _ _ _ _ _ w3 (by rw [if_pos HEZ.out]) HEZ.out.symm hz3 rfl (fun _ => rfl) (fun h => absurd HEZ.out h) hbz HKK.out
  · have he' : (E != 0) = true := by rw [bne_iff_ne]; exact he
    have HEN := Lib.hid he
    clear he g0 g1 g2 g3
    go_upto_region 54 with fail
    refine wp_region_noPanic ?_
    refine wp_region_held_drew (S := fun wd => wd.cell? ⟨r5, 2, none⟩ = some (.int .i64 E)) (by kernel_rfl) d2 (fun hHeld => ?_)
    -- 0: ref.go:241 slot 252 := Op.build 46 #[]
    refine wpAnyH_take (i := 0) (oi := ⟨some 252, _, _, _, _, _⟩) (v := ?_) rfl (by kernel_rfl) (by kernel_rfl) (by kernel_rfl) (fun _ _ _ h => h) (Or.inl ⟨by rfl, ?_⟩) (by assumption) ?_
    rotate_left 1
    · intro w hSw; (try dsimp only at hSw); go_simp; try with_reducible rfl
    simp only [Act.put, List.setIfInBounds_toArray, List.set_cons_zero, List.set_cons_succ]
    -- 1: ref.go:241 slot 253 := Op.fieldAddr 82 t5 2
    refine wpAnyH_take (i := 1) (oi := ⟨some 253, _, _, _, _, _⟩) (v := ?_) rfl (by kernel_rfl) (by kernel_rfl) (by kernel_rfl) (fun _ _ _ h => h) (Or.inl ⟨by rfl, ?_⟩) (by assumption) ?_
    rotate_left 1
    · intro w hSw; (try dsimp only at hSw); go_simp; try with_reducible rfl
    simp only [Act.put, List.setIfInBounds_toArray, List.set_cons_zero, List.set_cons_succ]
    -- 2: ref.go:241 slot 254 := Op.load 3 t253
    refine wpAnyH_take (i := 2) (oi := ⟨some 254, _, _, _, _, _⟩) (v := ?_) rfl (by kernel_rfl) (by kernel_rfl) (by kernel_rfl) (fun _ _ _ h => h) (Or.inl ⟨by rfl, ?_⟩) (by assumption) ?_
    rotate_left 1
    · intro w hSw; (try dsimp only at hSw); go_simp; try with_reducible rfl
    simp only [Act.put, List.setIfInBounds_toArray, List.set_cons_zero, List.set_cons_succ]
    -- 3: ref.go:241 slot none := Op.store 46 t2 t252
    refine wpAnyH_ready (rs := [3]) (by kernel_rfl) (by simp) ?_
    refine AllReadyH.cons (o := ⟨none, _, _, _, _, _⟩) rfl (fun K hK => ?_) AllReadyH.nil
    refine step_store_any (by rfl) 46 (.tmp 2) (.tmp 252) (by rfl) w.heap.size (tCells 0 (.slice none 0 0) (.slice none 0 0) 0) (by rfl) (by rfl) 46 (tCells 0 (.slice none 0 0) (.slice none 0 0) 0) (show wr.drew.heap[w.heap.size]? = _ from hz) hMI rfl (one_tx4 _ _ _ _ _ _ _ _) ?_
    intro w3 hz3 ht3
    refine hK.out _ _ ((ht3.cell (by omega)).trans d2) (fun hHeld' => ?_)
    clear hHeld
    have hHeld := hHeld'
    clear hHeld'
    clear hK K
    try (simp only [Act.put])
    -- 4: ref.go:241 slot 3 := Op.assign (const (0:i64))
    refine wpAnyH_take (i := 4) (oi := ⟨some 3, _, _, _, _, _⟩) (v := ?_) rfl (by kernel_rfl) (by kernel_rfl) (by kernel_rfl) (fun _ _ _ h => h) (Or.inl ⟨by rfl, ?_⟩) (by assumption) ?_
    rotate_left 1
    · intro w hSw; (try dsimp only at hSw); go_simp; try with_reducible rfl
    simp only [Act.put, List.setIfInBounds_toArray, List.set_cons_zero, List.set_cons_succ]
    -- 5: ref.go:241 slot 4 := Op.assign t254
    refine wpAnyH_take (i := 5) (oi := ⟨some 4, _, _, _, _, _⟩) (v := ?_) rfl (by kernel_rfl) (by kernel_rfl) (by kernel_rfl) (fun _ _ _ h => h) (Or.inl ⟨by rfl, ?_⟩) (by assumption) ?_
    rotate_left 1
    · intro w hSw; (try dsimp only at hSw); go_simp; try with_reducible rfl
    simp only [Act.put, List.setIfInBounds_toArray, List.set_cons_zero, List.set_cons_succ]
    refine wpAnyH_done (by kernel_rfl) ?_ _
    refine NoPanic.normal ?_
    have hd : Below wr.heap.size wr wr.drew := Below.drew (Below.refl _ _)
    have hbz : Below w.heap.size w w3 := ht3.below (below_then hb hb.size hd) (Nat.le_refl _)
    have hKK : ∀ k, k < wr.heap.size → k ≠ w.heap.size → w3.heap[k]? = wr.heap[k]? := fun k hlt hne => (ht3.block k hne).trans (hd.block k hlt)
    have HKK := Lib.hid hKK
    clear hHeld hd hKK
    go_wp2
    exact HE.out _ _ _ _ _ _ _ _ _ _ _ _ w3 (by rw [if_neg HEN.out]; rfl) rfl hz3 rfl (fun h => absurd h HEN.out) (fun _ => rfl) hbz HKK.out
end Go.Proofs.Ytjlkakggmfmfiaa
