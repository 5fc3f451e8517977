/- tx.Decode: what it hands back. | tx.Decode: behind the loops. | tx.Decode: what it hands back. -/
import Derived.Test.YtclkgflficlmiaaDoorDecWits
import Derived.Test.YtclkgflficlmiaaDoorTxFn
import Derived.Test.YtclkgflficlmiaaDoorTxLaw
/-! ## DecEnd -/
section
set_option maxRecDepth 100000
set_option linter.unusedVariables false
namespace Go.Proofs.YtclkgflficlmiaaDoor
open Go Go.RowKit
def headR : Code → Option Nat
  | .region id _ _ => some id
  | .seq a _ => headR a
  | _ => none
/-- The part of a function's code that begins with a region. -/
def findT (n : Nat) : Code → Option Code
  | .seq a b => if headR a = some n then some (.seq a b) else match findT n a with
    | some c => some c
    | none => findT n b
  | .scope c => findT n c
  | .block _ c => findT n c
  | .loop c => findT n c
  | _ => none
noncomputable def decT39 : Code := ((Tryd.f37.body.bind (findT 39)).getD .skip)
/-- The blocks that the transaction lies in. -/
abbrev DecS (w : World) (r g6 : Nat) (b : Nat) : Prop := w.heap.size ≤ b ∧ b ≠ r ∧ b ≠ g6 ∧ b ≠ w.heap.size
theorem Turned.cell {w w' : World} {g b i : Nat} (h : Turned w g w') (hb : b ≠ g) : w'.cell? ⟨b, i, none⟩ = w.cell? ⟨b, i, none⟩ := cell_move (h.block b hb)
theorem info_tx4 (x0 x1 x2 x3 : Value) : (Tryd.prog.info? 54).map (·.size) = some (#[x0, x1, x2, x3] : Array Value).size := by rw [show (#[x0, x1, x2, x3] : Array Value).size = 4 from rfl]; kernel_rfl
theorem one_tx4 (v l : Int) (A1 : Option Addr) (N1 c1 : Nat) (A2 : Option Addr) (N2 c2 : Nat) : (tCells v (.slice A1 N1 c1) (.slice A2 N2 c2) l).all (·.oneCell') = true := by
  rw [Array.all_eq_true']
  intro u hu
  have hu' : u ∈ [Value.int .i32 v, .slice A1 N1 c1, .slice A2 N2 c2, .int .u32 l] := by simpa using hu
  simp only [List.mem_cons, List.not_mem_nil, or_false] at hu'
  rcases hu' with rfl | rfl | rfl | rfl <;> rfl
set_option maxHeartbeats 8000000 in
theorem dec_end {u1 u8 u9 u10 u11 u12 u13 u14 u15 u16 u17 u18 u19 u20 u21 u22 u23 u24 u25 u26 u27 u28 u29 u30 u31 u32 u33 u34 u35 u36 u37 u38 u39 u40 u41 u42 u43 u44 u45 u46 u47 u48 u49 u50 u51 u52 u53 u54 u55 u56 u57 u58 u59 u60 u61 u62 u63 u64 u65 u66 u67 u68 u69 u70 u71 u72 u73 u74 u75 u76 u77 u78 u79 u80 u81 u82 u83 u84 u85 u86 u87 u88 u89 u90 u91 u92 u93 u94 u95 u96 u97 u98 u99 u100 u101 u102 u103 u104 u105 u106 u107 u108 u109 u110 u111 u112 u113 u114 u115 u116 u117 u118 u119 u120 u121 u122 u123 u124 u125 u126 u127 u128 u129 u130 u131 u132 u133 u134 u135 u136 u137 u138 u139 u140 u141 u142 u143 u144 u145 u146 u147 u148 u149 u150 u151 u152 u153 u154 u155 u156 u157 u158 u159 u160 u161 u162 u163 u164 u165 u166 u167 u168 u169 u170 u171 u172 u173 u174 u175 u176 u177 u178 u179 u180 u181 u182 u183 u184 u185 u186 u187 u188 u189 u190 u191 u192 u193 u194 u195 u196 u197 u198 u199 u200 u201 u202 u203 u204 u205 u206 u207 u208 u209 u210 u211 : Value} (w wr : World) (D o n c r g6 : Nat) (bs : List Int) (fl : Bool) (ver lock : Int) (A1 : Option Addr) (N1 c1 : Nat) (A2 : Option Addr) (N2 c2 : Nat) (q : List Int) (e1 : Int) (hcm : c ≤ maxLen) (hnc : n ≤ c)
    (hwr : w.heap.size < r) (hw6 : w.heap.size < g6) (hr6 : r ≠ g6)
    (hS : RSt wr r D ⟨q, e1⟩) (hg : wr.heap[g6]? = some (.cells (tCells ver (.slice A1 N1 c1) (.slice A2 N2 c2) lock) 54)) (hz : wr.heap[w.heap.size]? = some (.cells (tCells 0 (.slice none 0 0) (.slice none 0 0) 0) 54)) (hb : Below w.heap.size w wr)
    (he1 : decE bs = e1) (hN : decE bs = 0 → decN bs = min n 65536 - q.length ∧ q.length ≤ min n 65536)
    (hK : decE bs = 0 → ∀ w', (∀ k, DecS w r g6 k → k < wr.heap.size → w'.heap[k]? = wr.heap[k]?) → txK.K (fun b => w.heap.size ≤ b) w' (decT bs) [.int .i32 ver, .slice A1 N1 c1, .slice A2 N2 c2, .int .u32 lock]) (Q0 : Exit → Act → World → Prop)
    (hexit : ∀ x192 x193 x194 x195 x196 x197 x198 x199 x200 x201 x202 x203 x204 x205 x206 x207 x208 x209 x210 x211 nz ez cs w', nz = ((if decE bs = 0 then decN bs else 0 : Nat) : Int) → ez = decE bs → w'.heap[w.heap.size]? = some (.cells cs.toArray 54) → cs.length = 4 → (decE bs = 0 → txK.K (fun b => w.heap.size ≤ b) w' (decT bs) cs) → (decE bs ≠ 0 → cs = [.int .i32 0, .slice none 0 0, .slice none 0 0, .int .u32 0]) → Below w.heap.size w w' → Q0 .ret ⟨#[.slice (some ⟨D, o, none⟩) n c, u1, .pointer (some ⟨w.heap.size, 0, none⟩), .int .i64 nz, .int .i64 ez, .pointer (some ⟨r, 0, none⟩), .pointer (some ⟨g6, 0, none⟩), .bool fl, u8, u9, u10, u11, u12, u13, u14, u15, u16, u17, u18, u19, u20, u21, u22, u23, u24, u25, u26, u27, u28, u29, u30, u31, u32, u33, u34, u35, u36, u37, u38, u39, u40, u41, u42, u43, u44, u45, u46, u47, u48, u49, u50, u51, u52, u53, u54, u55, u56, u57, u58, u59, u60, u61, u62, u63, u64, u65, u66, u67, u68, u69, u70, u71, u72, u73, u74, u75, u76, u77, u78, u79, u80, u81, u82, u83, u84, u85, u86, u87, u88, u89, u90, u91, u92, u93, u94, u95, u96, u97, u98, u99, u100, u101, u102, u103, u104, u105, u106, u107, u108, u109, u110, u111, u112, u113, u114, u115, u116, u117, u118, u119, u120, u121, u122, u123, u124, u125, u126, u127, u128, u129, u130, u131, u132, u133, u134, u135, u136, u137, u138, u139, u140, u141, u142, u143, u144, u145, u146, u147, u148, u149, u150, u151, u152, u153, u154, u155, u156, u157, u158, u159, u160, u161, u162, u163, u164, u165, u166, u167, u168, u169, u170, u171, u172, u173, u174, u175, u176, u177, u178, u179, u180, u181, u182, u183, u184, u185, u186, u187, u188, u189, u190, u191, x192, x193, x194, x195, x196, x197, x198, x199, x200, x201, x202, x203, x204, x205, x206, x207, x208, x209, x210, x211], []⟩ w') :
    Code.wp Tryd.prog decT39 Q0 ⟨#[.slice (some ⟨D, o, none⟩) n c, u1, .pointer (some ⟨w.heap.size, 0, none⟩), .int .i64 0, .int .i64 0, .pointer (some ⟨r, 0, none⟩), .pointer (some ⟨g6, 0, none⟩), .bool fl, u8, u9, u10, u11, u12, u13, u14, u15, u16, u17, u18, u19, u20, u21, u22, u23, u24, u25, u26, u27, u28, u29, u30, u31, u32, u33, u34, u35, u36, u37, u38, u39, u40, u41, u42, u43, u44, u45, u46, u47, u48, u49, u50, u51, u52, u53, u54, u55, u56, u57, u58, u59, u60, u61, u62, u63, u64, u65, u66, u67, u68, u69, u70, u71, u72, u73, u74, u75, u76, u77, u78, u79, u80, u81, u82, u83, u84, u85, u86, u87, u88, u89, u90, u91, u92, u93, u94, u95, u96, u97, u98, u99, u100, u101, u102, u103, u104, u105, u106, u107, u108, u109, u110, u111, u112, u113, u114, u115, u116, u117, u118, u119, u120, u121, u122, u123, u124, u125, u126, u127, u128, u129, u130, u131, u132, u133, u134, u135, u136, u137, u138, u139, u140, u141, u142, u143, u144, u145, u146, u147, u148, u149, u150, u151, u152, u153, u154, u155, u156, u157, u158, u159, u160, u161, u162, u163, u164, u165, u166, u167, u168, u169, u170, u171, u172, u173, u174, u175, u176, u177, u178, u179, u180, u181, u182, u183, u184, u185, u186, u187, u188, u189, u190, u191, u192, u193, u194, u195, u196, u197, u198, u199, u200, u201, u202, u203, u204, u205, u206, u207, u208, u209, u210, u211], []⟩ wr := by
  have HE := Lib.hid hexit
  clear hexit
  obtain ⟨A9, m9, c9, hgr, h9a, h9b, hr9, _, _, _⟩ := id hS
  have hql : q.length = m9 := by have := hr9.1; rwa [nums_length] at this
  have d0 := blk_cell hgr (i := 0) (v := .slice A9 m9 c9) rfl
  have d1 := blk_cell hgr (i := 1) (v := .int .i64 e1) rfl
  have g0 := blk_cell hg (i := 0) (v := .int .i32 ver) rfl
  have g1 := blk_cell hg (i := 1) (v := .slice A1 N1 c1) rfl
  have g2 := blk_cell hg (i := 2) (v := .slice A2 N2 c2) rfl
  have g3 := blk_cell hg (i := 3) (v := .int .u32 lock) rfl
  have hMI := info_tx4 (.int .i32 0) (.slice none 0 0) (.slice none 0 0) (.int .u32 0)
  have hMI2 := info_tx4 (.int .i32 ver) (.slice A1 N1 c1) (.slice A2 N2 c2) (.int .u32 lock)
  have hcm' := hcm
  unfold maxLen at hcm' h9b
  conv => arg 2; whnf
  by_cases he : e1 = 0
  · have he' : (e1 != 0) = false := by rw [he]; rfl
    obtain ⟨hN1, hN2⟩ := hN (he1.trans he)
    obtain ⟨m, hm⟩ : ∃ m, min n 65536 = m := ⟨_, rfl⟩
    have hmi : min (n : Int) 65536 = (m : Int) := by omega
    have hsb : IntKind.i64.wrap ((m : Int) - (m9 : Int)) = ((m - m9 : Nat) : Int) := by rw [IntWalk.i64_in _ (by omega)]; omega
    have HNN : Hid (decN bs = m - m9) := Lib.hid (by omega)
    have HEZ : Hid (decE bs = 0) := Lib.hid (he1.trans he)
    have HK := Lib.hid (hK HEZ.out)
    clear hN hN1 hN2 hm hql he he1 hr9 hK hgr hS
    go_upto_region 41 with fail
    refine wp_region_noPanic ?_
    refine wp_region_held_drew (S := fun wd => wd.cell? ⟨r, 0, none⟩ = some (.slice A9 m9 c9) ∧ wd.cell? ⟨g6, 0, none⟩ = some (.int .i32 ver) ∧ wd.cell? ⟨g6, 1, none⟩ = some (.slice A1 N1 c1) ∧ wd.cell? ⟨g6, 2, none⟩ = some (.slice A2 N2 c2) ∧ wd.cell? ⟨g6, 3, none⟩ = some (.int .u32 lock)) (by kernel_rfl) ⟨d0, g0, g1, g2, g3⟩ (fun hHeld => ?_)
    -- 0: tx.go:235 slot 202 := Op.load 69 t6
    refine wpAnyH_take (i := 0) (oi := ⟨some 202, _, _, _, _, _⟩) (v := ?_) rfl (by kernel_rfl) (by kernel_rfl) (by kernel_rfl) (fun _ _ _ h => h) (Or.inl ⟨by rfl, ?_⟩) (by assumption) ?_
    rotate_left 1
    · intro w hSw; (try dsimp only at hSw); go_simp; try with_reducible rfl
    simp only [Act.put, List.setIfInBounds_toArray, List.set_cons_zero, List.set_cons_succ]
    -- 1: tx.go:235 slot 203 := Op.move t0
    refine wpAnyH_take (i := 1) (oi := ⟨some 203, _, _, _, _, _⟩) (v := ?_) rfl (by kernel_rfl) (by kernel_rfl) (by kernel_rfl) (fun _ _ _ h => h) (Or.inl ⟨by rfl, ?_⟩) (by assumption) ?_
    rotate_left 1
    · intro w hSw; (try dsimp only at hSw); go_simp; try with_reducible rfl
    simp only [Act.put, List.setIfInBounds_toArray, List.set_cons_zero, List.set_cons_succ]
    -- 2: tx.go:235 slot 204 := Op.call { builtin len, args := #[t203], argTypes := #[22] }
    refine wpAnyH_take (i := 2) (oi := ⟨some 204, _, _, _, _, _⟩) (v := ?_) rfl (by kernel_rfl) (by kernel_rfl) (by kernel_rfl) (fun _ _ _ h => h) (Or.inl ⟨by rfl, ?_⟩) (by assumption) ?_
    rotate_left 1
    · intro w hSw; (try dsimp only at hSw); go_simp; try with_reducible rfl
    simp only [Act.put, List.setIfInBounds_toArray, List.set_cons_zero, List.set_cons_succ]
    -- 3: tx.go:235 slot 205 := Op.call { builtin min, args := #[t204, const (65536:i64)], argTypes := #[3, 3] }
    refine wpAnyH_take (i := 3) (oi := ⟨some 205, _, _, _, _, _⟩) (v := ?_) rfl (by kernel_rfl) (by kernel_rfl) (by kernel_rfl) (fun _ _ _ h => h) (Or.inl ⟨by rfl, ?_⟩) (by assumption) ?_
    rotate_left 1
    · intro w hSw; (try dsimp only at hSw); go_simp; try with_reducible rfl
    simp only [Act.put, List.setIfInBounds_toArray, List.set_cons_zero, List.set_cons_succ]
    -- 4: tx.go:235 slot 206 := Op.move t5
    refine wpAnyH_take (i := 4) (oi := ⟨some 206, _, _, _, _, _⟩) (v := ?_) rfl (by kernel_rfl) (by kernel_rfl) (by kernel_rfl) (fun _ _ _ h => h) (Or.inl ⟨by rfl, ?_⟩) (by assumption) ?_
    rotate_left 1
    · intro w hSw; (try dsimp only at hSw); go_simp; try with_reducible rfl
    simp only [Act.put, List.setIfInBounds_toArray, List.set_cons_zero, List.set_cons_succ]
    -- 5: tx.go:235 slot 207 := Op.nilCheck t206
    refine wpAnyH_take (i := 5) (oi := ⟨some 207, _, _, _, _, _⟩) (v := ?_) rfl (by kernel_rfl) (by kernel_rfl) (by kernel_rfl) (fun _ _ _ h => h) (Or.inl ⟨by rfl, ?_⟩) (by assumption) ?_
    rotate_left 1
    · intro w hSw; (try dsimp only at hSw); go_simp; try with_reducible rfl
    simp only [Act.put, List.setIfInBounds_toArray, List.set_cons_zero, List.set_cons_succ]
    -- 6: tx.go:235 slot 208 := Op.fieldAddr 145 t207 0
    refine wpAnyH_take (i := 6) (oi := ⟨some 208, _, _, _, _, _⟩) (v := ?_) rfl (by kernel_rfl) (by kernel_rfl) (by kernel_rfl) (fun _ _ _ h => h) (Or.inl ⟨by rfl, ?_⟩) (by assumption) ?_
    rotate_left 1
    · intro w hSw; (try dsimp only at hSw); go_simp; try with_reducible rfl
    simp only [Act.put, List.setIfInBounds_toArray, List.set_cons_zero, List.set_cons_succ]
    -- 7: tx.go:235 slot 209 := Op.load 22 t208
    refine wpAnyH_take (i := 7) (oi := ⟨some 209, _, _, _, _, _⟩) (v := ?_) rfl (by kernel_rfl) (by kernel_rfl) (by kernel_rfl) (fun _ _ _ h => h) (Or.inl ⟨by rfl, ?_⟩) (by assumption) ?_
    rotate_left 1
    · intro w hSw; (try dsimp only at hSw); go_simp; try with_reducible rfl
    simp only [Act.put, List.setIfInBounds_toArray, List.set_cons_zero, List.set_cons_succ]
    -- 8: tx.go:235 slot 210 := Op.call { builtin len, args := #[t209], argTypes := #[22] }
    refine wpAnyH_take (i := 8) (oi := ⟨some 210, _, _, _, _, _⟩) (v := ?_) rfl (by kernel_rfl) (by kernel_rfl) (by kernel_rfl) (fun _ _ _ h => h) (Or.inl ⟨by rfl, ?_⟩) (by assumption) ?_
    rotate_left 1
    · intro w hSw; (try dsimp only at hSw); go_simp; try with_reducible rfl
    simp only [Act.put, List.setIfInBounds_toArray, List.set_cons_zero, List.set_cons_succ]
    -- 9: tx.go:235 slot 211 := Op.binOp BinOp.sub 3 t205 t210 3
    refine wpAnyH_take (i := 9) (oi := ⟨some 211, _, _, _, _, _⟩) (v := ?_) rfl (by kernel_rfl) (by kernel_rfl) (by kernel_rfl) (fun _ _ _ h => h) (Or.inl ⟨by rfl, ?_⟩) (by assumption) ?_
    rotate_left 1
    · intro w hSw; (try dsimp only at hSw); go_simp; try with_reducible rfl
    simp only [Act.put, List.setIfInBounds_toArray, List.set_cons_zero, List.set_cons_succ]
    -- 10: tx.go:235 slot none := Op.store 69 t2 t202
    refine wpAnyH_ready (rs := [10]) (by kernel_rfl) (by simp) ?_
    refine AllReadyH.cons (o := ⟨none, _, _, _, _, _⟩) rfl (fun K hK => ?_) AllReadyH.nil
    refine step_store_any (by rfl) 54 (.tmp 2) (.tmp 202) (by rfl) w.heap.size (tCells ver (.slice A1 N1 c1) (.slice A2 N2 c2) lock) (by rfl) (by rfl) 54 (tCells 0 (.slice none 0 0) (.slice none 0 0) 0) (show wr.drew.heap[w.heap.size]? = _ from hz) hMI2 rfl (one_tx4 _ _ _ _ _ _ _ _) ?_
    intro w3 hz3 ht3
    refine hK.out _ _ ⟨(ht3.cell (by omega)).trans d0, (ht3.cell (by omega)).trans g0, (ht3.cell (by omega)).trans g1, (ht3.cell (by omega)).trans g2, (ht3.cell (by omega)).trans g3⟩ (fun hHeld' => ?_)
    clear hHeld
    have hHeld := hHeld'
    clear hHeld'
    clear hK K
    try (simp only [Act.put])
    -- 11: tx.go:235 slot 3 := Op.assign t211
    refine wpAnyH_take (i := 11) (oi := ⟨some 3, _, _, _, _, _⟩) (v := ?_) rfl (by kernel_rfl) (by kernel_rfl) (by kernel_rfl) (fun _ _ _ h => h) (Or.inl ⟨by rfl, ?_⟩) (by assumption) ?_
    rotate_left 1
    · intro w hSw; (try dsimp only at hSw); go_simp; try with_reducible rfl
    simp only [Act.put, List.setIfInBounds_toArray, List.set_cons_zero, List.set_cons_succ]
    -- 12: tx.go:235 slot 4 := Op.assign (const (0:i64))
    refine wpAnyH_take (i := 12) (oi := ⟨some 4, _, _, _, _, _⟩) (v := ?_) rfl (by kernel_rfl) (by kernel_rfl) (by kernel_rfl) (fun _ _ _ h => h) (Or.inl ⟨by rfl, ?_⟩) (by assumption) ?_
    rotate_left 1
    · intro w hSw; (try dsimp only at hSw); go_simp; try with_reducible rfl
    simp only [Act.put, List.setIfInBounds_toArray, List.set_cons_zero, List.set_cons_succ]
    refine wpAnyH_done (by kernel_rfl) ?_ _
    refine NoPanic.normal ?_
    have hd : Below wr.heap.size wr wr.drew := Below.drew (Below.refl _ _)
    have hbz : Below w.heap.size w w3 := ht3.below (below_then hb hb.size hd) (Nat.le_refl _)
    have hKK := HK.out w3 (fun k hk hlt => (ht3.block k hk.2.2.2).trans (hd.block k hlt))
    clear hHeld hd
    go_wp2
    exact HE.out _ _ _ _ _ _ _ _ _ _ _ _ _ _ _ _ _ _ _ _ _ _ _ w3 (by rw [if_pos HEZ.out, HNN.out]) HEZ.out.symm hz3 rfl (fun _ => hKK) (fun h => absurd HEZ.out h) hbz
  · have he' : (e1 != 0) = true := by rw [bne_iff_ne]; exact he
    have HEZ : Hid (decE bs = e1) := Lib.hid he1
    have HEN := Lib.hid he
    clear hN hql he he1 hr9 hK hgr hS d0 g0 g1 g2 g3
    go_upto_region 40 with fail
    refine wp_region_noPanic ?_
    refine wp_region_held_drew (S := fun wd => wd.cell? ⟨r, 1, none⟩ = some (.int .i64 e1)) (by kernel_rfl) d1 (fun hHeld => ?_)
    -- 0: tx.go:233 slot 197 := Op.build 69 #[]
    refine wpAnyH_take (i := 0) (oi := ⟨some 197, _, _, _, _, _⟩) (v := ?_) rfl (by kernel_rfl) (by kernel_rfl) (by kernel_rfl) (fun _ _ _ h => h) (Or.inl ⟨by rfl, ?_⟩) (by assumption) ?_
    rotate_left 1
    · intro w hSw; (try dsimp only at hSw); go_simp; try with_reducible rfl
    simp only [Act.put, List.setIfInBounds_toArray, List.set_cons_zero, List.set_cons_succ]
    -- 1: tx.go:233 slot 198 := Op.move t5
    refine wpAnyH_take (i := 1) (oi := ⟨some 198, _, _, _, _, _⟩) (v := ?_) rfl (by kernel_rfl) (by kernel_rfl) (by kernel_rfl) (fun _ _ _ h => h) (Or.inl ⟨by rfl, ?_⟩) (by assumption) ?_
    rotate_left 1
    · intro w hSw; (try dsimp only at hSw); go_simp; try with_reducible rfl
    simp only [Act.put, List.setIfInBounds_toArray, List.set_cons_zero, List.set_cons_succ]
    -- 2: tx.go:233 slot 199 := Op.nilCheck t198
    refine wpAnyH_take (i := 2) (oi := ⟨some 199, _, _, _, _, _⟩) (v := ?_) rfl (by kernel_rfl) (by kernel_rfl) (by kernel_rfl) (fun _ _ _ h => h) (Or.inl ⟨by rfl, ?_⟩) (by assumption) ?_
    rotate_left 1
    · intro w hSw; (try dsimp only at hSw); go_simp; try with_reducible rfl
    simp only [Act.put, List.setIfInBounds_toArray, List.set_cons_zero, List.set_cons_succ]
    -- 3: tx.go:233 slot 200 := Op.fieldAddr 145 t199 1
    refine wpAnyH_take (i := 3) (oi := ⟨some 200, _, _, _, _, _⟩) (v := ?_) rfl (by kernel_rfl) (by kernel_rfl) (by kernel_rfl) (fun _ _ _ h => h) (Or.inl ⟨by rfl, ?_⟩) (by assumption) ?_
    rotate_left 1
    · intro w hSw; (try dsimp only at hSw); go_simp; try with_reducible rfl
    simp only [Act.put, List.setIfInBounds_toArray, List.set_cons_zero, List.set_cons_succ]
    -- 4: tx.go:233 slot 201 := Op.load 47 t200
    refine wpAnyH_take (i := 4) (oi := ⟨some 201, _, _, _, _, _⟩) (v := ?_) rfl (by kernel_rfl) (by kernel_rfl) (by kernel_rfl) (fun _ _ _ h => h) (Or.inl ⟨by rfl, ?_⟩) (by assumption) ?_
    rotate_left 1
    · intro w hSw; (try dsimp only at hSw); go_simp; try with_reducible rfl
    simp only [Act.put, List.setIfInBounds_toArray, List.set_cons_zero, List.set_cons_succ]
    -- 5: tx.go:233 slot none := Op.store 69 t2 t197
    refine wpAnyH_ready (rs := [5]) (by kernel_rfl) (by simp) ?_
    refine AllReadyH.cons (o := ⟨none, _, _, _, _, _⟩) rfl (fun K hK => ?_) AllReadyH.nil
    refine step_store_any (by rfl) 54 (.tmp 2) (.tmp 197) (by rfl) w.heap.size (tCells 0 (.slice none 0 0) (.slice none 0 0) 0) (by rfl) (by rfl) 54 (tCells 0 (.slice none 0 0) (.slice none 0 0) 0) (show wr.drew.heap[w.heap.size]? = _ from hz) hMI rfl (one_tx4 _ _ _ _ _ _ _ _) ?_
    intro w3 hz3 ht3
    refine hK.out _ _ ((ht3.cell (by omega)).trans d1) (fun hHeld' => ?_)
    clear hHeld
    have hHeld := hHeld'
    clear hHeld'
    clear hK K
    try (simp only [Act.put])
    -- 6: tx.go:233 slot 3 := Op.assign (const (0:i64))
    refine wpAnyH_take (i := 6) (oi := ⟨some 3, _, _, _, _, _⟩) (v := ?_) rfl (by kernel_rfl) (by kernel_rfl) (by kernel_rfl) (fun _ _ _ h => h) (Or.inl ⟨by rfl, ?_⟩) (by assumption) ?_
    rotate_left 1
    · intro w hSw; (try dsimp only at hSw); go_simp; try with_reducible rfl
    simp only [Act.put, List.setIfInBounds_toArray, List.set_cons_zero, List.set_cons_succ]
    -- 7: tx.go:233 slot 4 := Op.assign t201
    refine wpAnyH_take (i := 7) (oi := ⟨some 4, _, _, _, _, _⟩) (v := ?_) rfl (by kernel_rfl) (by kernel_rfl) (by kernel_rfl) (fun _ _ _ h => h) (Or.inl ⟨by rfl, ?_⟩) (by assumption) ?_
    rotate_left 1
    · intro w hSw; (try dsimp only at hSw); go_simp; try with_reducible rfl
    simp only [Act.put, List.setIfInBounds_toArray, List.set_cons_zero, List.set_cons_succ]
    refine wpAnyH_done (by kernel_rfl) ?_ _
    refine NoPanic.normal ?_
    have hd : Below wr.heap.size wr wr.drew := Below.drew (Below.refl _ _)
    have hbz : Below w.heap.size w w3 := ht3.below (below_then hb hb.size hd) (Nat.le_refl _)
    clear hHeld hd
    go_wp2
    exact HE.out _ _ _ _ _ _ _ _ _ _ _ _ _ _ _ _ _ _ _ _ _ _ _ w3 (by rw [if_neg (fun h => HEN.out (HEZ.out.symm.trans h))]; rfl) HEZ.out.symm hz3 rfl (fun h => absurd (HEZ.out.symm.trans h) HEN.out) (fun _ => rfl) hbz
end Go.Proofs.YtclkgflficlmiaaDoor
end

/-! ## DecTail -/
section
set_option maxRecDepth 100000
set_option linter.unusedVariables false
namespace Go.Proofs.YtclkgflficlmiaaDoor
open Go Go.RowKit
noncomputable def decT34 : Code := ((Tryd.f37.body.bind (findT 34)).getD .skip)
set_option maxHeartbeats 8000000 in
theorem dec_tail {u1 u8 u9 u10 u11 u12 u13 u14 u15 u16 u17 u18 u19 u20 u21 u22 u23 u24 u25 u26 u27 u28 u29 u30 u31 u32 u33 u34 u35 u36 u37 u38 u39 u40 u41 u42 u43 u44 u45 u46 u47 u48 u49 u50 u51 u52 u53 u54 u55 u56 u57 u58 u59 u60 u61 u62 u63 u64 u65 u66 u67 u68 u69 u70 u71 u72 u73 u74 u75 u76 u77 u78 u79 u80 u81 u82 u83 u84 u85 u86 u87 u88 u89 u90 u91 u92 u93 u94 u95 u96 u97 u98 u99 u100 u101 u102 u103 u104 u105 u106 u107 u108 u109 u110 u111 u112 u113 u114 u115 u116 u117 u118 u119 u120 u121 u122 u123 u124 u125 u126 u127 u128 u129 u130 u131 u132 u133 u134 u135 u136 u137 u138 u139 u140 u141 u142 u143 u144 u145 u146 u147 u148 u149 u150 u151 u152 u153 u154 u155 u156 u157 u158 u159 u160 u161 u162 u163 u164 u165 u166 u167 u168 u169 u170 u171 u172 u173 u174 u175 u176 u177 u178 u179 u180 u181 u182 u183 u184 u185 u186 u187 u188 u189 u190 u191 u192 u193 u194 u195 u196 u197 u198 u199 u200 u201 u202 u203 u204 u205 u206 u207 u208 u209 u210 u211 : Value} (w wr : World) (D o n c r g6 : Nat) (bs : List Int) (fl : Bool) (ver : Int) (A1 : Option Addr) (N1 c1 : Nat) (A2 : Option Addr) (N2 c2 : Nat) (p : PSt) (hcm : c ≤ maxLen) (hnc : n ≤ c) (hl : bs.length = n) (hbs : Bytes bs)
    (hwr : w.heap.size < r) (hw6 : w.heap.size < g6) (hr6 : r ≠ g6) (hDw : D < w.heap.size)
    (hS : RSt wr r D p) (hg : wr.heap[g6]? = some (.cells (tCells ver (.slice A1 N1 c1) (.slice A2 N2 c2) 0) 54)) (hz : wr.heap[w.heap.size]? = some (.cells (tCells 0 (.slice none 0 0) (.slice none 0 0) 0) 54)) (hb : Below w.heap.size w wr)
    (hp : (decWs bs).2 = p) (hfl : decW bs = fl) (hver : IntKind.i32.wrap (ofLE ((⟨bs.take 65536, 0⟩ : PSt).takeB 4)) = ver)
    (hI : inK.C (DecS w r g6) wr A1 N1 (decWs bs).1) (hO : outK.C (DecS w r g6) wr A2 N2 (decO bs).1) (h1 : N1 ≤ c1) (h2 : c1 ≤ maxLen) (h3 : N2 ≤ c2) (h4 : c2 ≤ maxLen) (Q0 : Exit → Act → World → Prop)
    (hexit : ∀ x147 x148 x149 x150 x151 x152 x153 x154 x155 x156 x157 x158 x159 x160 x161 x162 x163 x164 x165 x166 x167 x168 x169 x170 x171 x172 x173 x174 x175 x176 x177 x178 x179 x180 x181 x182 x183 x184 x185 x186 x187 x188 x189 x190 x191 x192 x193 x194 x195 x196 x197 x198 x199 x200 x201 x202 x203 x204 x205 x206 x207 x208 x209 x210 x211 nz ez cs w', nz = ((if decE bs = 0 then decN bs else 0 : Nat) : Int) → ez = decE bs → w'.heap[w.heap.size]? = some (.cells cs.toArray 54) → cs.length = 4 → (decE bs = 0 → txK.K (fun b => w.heap.size ≤ b) w' (decT bs) cs) → (decE bs ≠ 0 → cs = [.int .i32 0, .slice none 0 0, .slice none 0 0, .int .u32 0]) → Below w.heap.size w w' → Q0 .ret ⟨#[.slice (some ⟨D, o, none⟩) n c, u1, .pointer (some ⟨w.heap.size, 0, none⟩), .int .i64 nz, .int .i64 ez, .pointer (some ⟨r, 0, none⟩), .pointer (some ⟨g6, 0, none⟩), .bool fl, u8, u9, u10, u11, u12, u13, u14, u15, u16, u17, u18, u19, u20, u21, u22, u23, u24, u25, u26, u27, u28, u29, u30, u31, u32, u33, u34, u35, u36, u37, u38, u39, u40, u41, u42, u43, u44, u45, u46, u47, u48, u49, u50, u51, u52, u53, u54, u55, u56, u57, u58, u59, u60, u61, u62, u63, u64, u65, u66, u67, u68, u69, u70, u71, u72, u73, u74, u75, u76, u77, u78, u79, u80, u81, u82, u83, u84, u85, u86, u87, u88, u89, u90, u91, u92, u93, u94, u95, u96, u97, u98, u99, u100, u101, u102, u103, u104, u105, u106, u107, u108, u109, u110, u111, u112, u113, u114, u115, u116, u117, u118, u119, u120, u121, u122, u123, u124, u125, u126, u127, u128, u129, u130, u131, u132, u133, u134, u135, u136, u137, u138, u139, u140, u141, u142, u143, u144, u145, u146, x147, x148, x149, x150, x151, x152, x153, x154, x155, x156, x157, x158, x159, x160, x161, x162, x163, x164, x165, x166, x167, x168, x169, x170, x171, x172, x173, x174, x175, x176, x177, x178, x179, x180, x181, x182, x183, x184, x185, x186, x187, x188, x189, x190, x191, x192, x193, x194, x195, x196, x197, x198, x199, x200, x201, x202, x203, x204, x205, x206, x207, x208, x209, x210, x211], []⟩ w') :
    Code.wp Tryd.prog decT34 Q0 ⟨#[.slice (some ⟨D, o, none⟩) n c, u1, .pointer (some ⟨w.heap.size, 0, none⟩), .int .i64 0, .int .i64 0, .pointer (some ⟨r, 0, none⟩), .pointer (some ⟨g6, 0, none⟩), .bool fl, u8, u9, u10, u11, u12, u13, u14, u15, u16, u17, u18, u19, u20, u21, u22, u23, u24, u25, u26, u27, u28, u29, u30, u31, u32, u33, u34, u35, u36, u37, u38, u39, u40, u41, u42, u43, u44, u45, u46, u47, u48, u49, u50, u51, u52, u53, u54, u55, u56, u57, u58, u59, u60, u61, u62, u63, u64, u65, u66, u67, u68, u69, u70, u71, u72, u73, u74, u75, u76, u77, u78, u79, u80, u81, u82, u83, u84, u85, u86, u87, u88, u89, u90, u91, u92, u93, u94, u95, u96, u97, u98, u99, u100, u101, u102, u103, u104, u105, u106, u107, u108, u109, u110, u111, u112, u113, u114, u115, u116, u117, u118, u119, u120, u121, u122, u123, u124, u125, u126, u127, u128, u129, u130, u131, u132, u133, u134, u135, u136, u137, u138, u139, u140, u141, u142, u143, u144, u145, u146, u147, u148, u149, u150, u151, u152, u153, u154, u155, u156, u157, u158, u159, u160, u161, u162, u163, u164, u165, u166, u167, u168, u169, u170, u171, u172, u173, u174, u175, u176, u177, u178, u179, u180, u181, u182, u183, u184, u185, u186, u187, u188, u189, u190, u191, u192, u193, u194, u195, u196, u197, u198, u199, u200, u201, u202, u203, u204, u205, u206, u207, u208, u209, u210, u211], []⟩ wr := by
  have HE := Lib.hid hexit
  clear hexit
  have HBS := Lib.hid hbs
  have hby := hS.bytes
  have hlk := le4_takeB hby
  obtain ⟨lock, hlock⟩ : ∃ lock, ofLE (p.takeB 4) = lock := ⟨_, rfl⟩
  have hwl : IntKind.u32.wrap (ofLE (p.takeB 4)) = ofLE (p.takeB 4) := by rw [IntKind.wrap_u32]; omega
  rw [hlock] at hlk
  obtain ⟨q, hq⟩ : ∃ q, p.take 4 = q := ⟨_, rfl⟩
  have hq9 : decP9 bs = q := by unfold decP9; rw [hp, hq]
  have hE1 : decE1 bs = if q.e = 8 ∧ 65536 < bs.length then 2 else q.e := by unfold decE1; rw [hq9]
  have hE : decE bs = if decE1 bs = 0 ∧ (N1 = 0 ∨ N2 = 0 ∨ (fl = true ∧ (decT bs).hasWit = false)) then 2 else decE1 bs := by unfold decE; rw [hI.len, hO.len, hfl]
  have hN : decN bs = min n 65536 - q.bs.length := by unfold decN; rw [hq9, hl]
  have hT : decT bs = ⟨ver, (decWs bs).1, (decO bs).1, lock⟩ := by unfold decT; rw [hp, hver, hlock]
  have HE1 := Lib.hid hE1
  have HEE := Lib.hid hE
  have HN := Lib.hid hN
  have HT := Lib.hid hT
  have HL := Lib.hid hl
  have hvr : -2147483648 ≤ ver ∧ ver ≤ 2147483647 := by rw [← hver]; exact wrap_i32_range _
  clear hE1 hE hN hT hq9 hp hfl hver hl
  have hcm' := hcm
  unfold maxLen at hcm'
  have h2' := h2
  have h4' := h4
  unfold maxLen at h2' h4'
  conv => arg 2; whnf
  go_wp2_with fail
  refine (rlit_calls _ r D p 4 (by decide) hS _ rfl).mono ?_
  rintro e w1 ⟨rfl, hS1, hG1⟩
  have hg1 := heap_grown hG1 hg (fun e => hr6 (Option.some.inj e).symm)
  have hz1 := heap_grown hG1 hz (fun e => by have := Option.some.inj e; omega)
  have hb1 := hb.grown hG1 hb.size (fun k e => by cases e; omega)
  have hI1 := hI.move (w1 := w1) (fun k hk hlt => hG1.block k hlt (fun e => hk.2.1 (Option.some.inj e)))
  have hO1 := hO.move (w1 := w1) (fun k hk hlt => hG1.block k hlt (fun e => hk.2.1 (Option.some.inj e)))
  have cv1 := blk_cell hg1 (i := 3) (v := .int .u32 0) rfl
  have fv1 := blk_frozen hg1 3
  rw [hq] at hS1
  clear hS hg hz hb hI hO hG1 hq
  go_upto_region 35 with fail
  have hTs := turned_setCell w1 g6 3 (.int .u32 lock)
  have hS2 := hS1.keep (hTs.block r hr6) (hTs.block D (by omega))
  have hg2 := blk_set hg1 3 (.int .u32 lock)
  have hz2 := (hTs.block w.heap.size (by omega)).trans hz1
  have hb2 := hTs.below hb1 (by omega)
  have hI2 := hI1.move (w1 := w1.setCell ⟨g6, 3, none⟩ (.int .u32 lock)) (fun k hk _ => hTs.block k hk.2.2.1)
  have hO2 := hO1.move (w1 := w1.setCell ⟨g6, 3, none⟩ (.int .u32 lock)) (fun k hk _ => hTs.block k hk.2.2.1)
  refine wp_gen (q := fun wi => RSt wi r D q ∧ wi.heap[g6]? = some (.cells (tCells ver (.slice A1 N1 c1) (.slice A2 N2 c2) lock) 54) ∧ wi.heap[w.heap.size]? = some (.cells (tCells 0 (.slice none 0 0) (.slice none 0 0) 0) 54) ∧ Below w.heap.size w wi ∧ inK.C (DecS w r g6) wi A1 N1 (decWs bs).1 ∧ outK.C (DecS w r g6) wi A2 N2 (decO bs).1) ⟨hS2, hg2, hz2, hb2, hI2, hO2⟩ (fun w2 hw => ?_)
  clear hS2 hg2 hz2 hb2 hI2 hO2 hTs hS1 hg1 hz1 hb1 hI1 hO1 cv1 fv1 hwl hlock
  obtain ⟨hS2, hg2, hz2, hb2, hI2, hO2⟩ := hw
  obtain ⟨A9, m9, c9, hgr, h9a, h9b, hr9, _, _, _⟩ := id hS2
  have hql : q.bs.length = m9 := by have := hr9.1; rwa [nums_length] at this
  have d0 := blk_cell hgr (i := 0) (v := .slice A9 m9 c9) rfl
  have d1 := blk_cell hgr (i := 1) (v := .int .i64 q.e) rfl
  have f1 := blk_frozen hgr 1
  have g0 := blk_cell hg2 (i := 0) (v := .int .i32 ver) rfl
  have g1 := blk_cell hg2 (i := 1) (v := .slice A1 N1 c1) rfl
  have g2 := blk_cell hg2 (i := 2) (v := .slice A2 N2 c2) rfl
  have g3 := blk_cell hg2 (i := 3) (v := .int .u32 lock) rfl
  have ht1 := turned_setCell w2 r 1 (.int .i64 2)
  have hSb : RSt (w2.setCell ⟨r, 1, none⟩ (.int .i64 2)) r D ⟨q.bs, 2⟩ := by
    obtain ⟨A, n', c', hg', h1', h2', h3', h4', h5', h6'⟩ := hS2
    exact ⟨A, n', c', blk_set hg' 1 (.int .i64 2), h1', h2', h3'.keepD h5' (ht1.block D h6'), h4', h5', h6'⟩
  have HSB := Lib.hid hSb
  have HQL := Lib.hid hql
  clear hgr hr9 hql hSb
  unfold maxLen at h9b
  have hnd : q.bs.length ≤ m9 := by rw [HQL.out]; exact Nat.le_refl _
  have htb := ht1.below hb2 (by omega)
  have htg := (ht1.block g6 (fun e => hr6 e.symm)).trans hg2
  have htz := (ht1.block w.heap.size (by omega)).trans hz2
  by_cases hA : q.e = 8 ∧ 65536 < n
  · have hb1 : (q.e == 8) = true := by rw [hA.1]; rfl
    have hb2' : (65536 : Int) < (n : Int) := by omega
    have hx1 : decE1 bs = 2 := by rw [HE1.out, if_pos ⟨hA.1, by rw [HL.out]; exact hA.2⟩]
    have HEZ : Hid (decE bs = 2) := Lib.hid (by rw [HEE.out, hx1, if_neg (fun h => by cases h.1)])
    have hq8 := hA.1
    rw [hq8] at d1
    clear hA hx1 hb1
    go_upto_if 188 with fail
    go_cut [7] from 189 to 191 (fun v7 wd => v7 = .bool fl ∧ wd = w2.setCell ⟨r, 1, none⟩ (.int .i64 2))
    case first =>
      go_wp2
      go_meet
      case rel => exact ⟨rfl, rfl⟩
    case rest =>
      obtain ⟨rfl, rfl⟩ := hcut
      rename_i Kx hKx
      refine hKx _ _ ?_
      refine dec_end w _ D o n c r g6 bs fl ver lock A1 N1 c1 A2 N2 c2 q.bs 2 hcm hnc hwr hw6 hr6 HSB.out htg htz htb HEZ.out (fun h => absurd h (by rw [HEZ.out]; decide)) (fun h => absurd h (by rw [HEZ.out]; decide)) _ ?_
      intro z0 z1 z2 z3 z4 z5 z6 z7 z8 z9 z10 z11 z12 z13 z14 z15 z16 z17 z18 z19 nz ez cs w' q1 q2 q3 q4 q5 q6 q7
      exact HE.out _ _ _ _ _ _ _ _ _ _ _ _ _ _ _ _ _ _ _ _ _ _ _ _ _ _ _ _ _ _ _ _ _ _ _ _ _ _ _ _ _ _ _ _ _ _ _ _ _ _ _ _ _ _ _ _ _ _ _ _ _ _ _ _ _ nz ez cs w' q1 q2 q3 q4 q5 q6 q7
  · have HX1 : Hid (decE1 bs = q.e) := Lib.hid (by rw [HE1.out, if_neg (fun h => hA ⟨h.1, by rw [← HL.out]; exact h.2⟩)])
    have hA' : ¬ (q.e = 8 ∧ (65536 : Int) < (n : Int)) := fun h => hA ⟨h.1, by omega⟩
    have HA := Lib.hid hA'
    clear hA hA'
    by_cases hq8 : q.e = 8
    · have hn' : ¬ (65536 : Int) < (n : Int) := fun h => HA.out ⟨hq8, h⟩
      have HEZ : Hid (decE bs = 8) := Lib.hid (by rw [HEE.out, HX1.out, if_neg (fun h => by omega), hq8])
      rw [hq8] at d1
      have hSq : RSt w2 r D ⟨q.bs, 8⟩ := by rw [← hq8]; exact hS2
      go_upto_if 188 with fail
      go_cut [7] from 189 to 191 (fun v7 wd => v7 = .bool fl ∧ wd = w2)
      case first =>
        go_wp2
        go_meet
        case rel => exact ⟨rfl, rfl⟩
      case rest =>
        obtain ⟨rfl, rfl⟩ := hcut
        rename_i Kx hKx
        refine hKx _ _ ?_
        refine dec_end w _ D o n c r g6 bs fl ver lock A1 N1 c1 A2 N2 c2 q.bs 8 hcm hnc hwr hw6 hr6 hSq hg2 hz2 hb2 HEZ.out (fun h => absurd h (by rw [HEZ.out]; decide)) (fun h => absurd h (by rw [HEZ.out]; decide)) _ ?_
        intro z0 z1 z2 z3 z4 z5 z6 z7 z8 z9 z10 z11 z12 z13 z14 z15 z16 z17 z18 z19 nz ez cs w' q1 q2 q3 q4 q5 q6 q7
        exact HE.out _ _ _ _ _ _ _ _ _ _ _ _ _ _ _ _ _ _ _ _ _ _ _ _ _ _ _ _ _ _ _ _ _ _ _ _ _ _ _ _ _ _ _ _ _ _ _ _ _ _ _ _ _ _ _ _ _ _ _ _ _ _ _ _ _ nz ez cs w' q1 q2 q3 q4 q5 q6 q7
    · have hq8' : (q.e == 8) = false := by rw [beq_eq_false_iff_ne]; exact hq8
      by_cases hq0 : q.e = 0
      · have hq0' : (q.e == 0) = true := by rw [hq0]; rfl
        have hSq : RSt w2 r D ⟨q.bs, 0⟩ := by rw [← hq0]; exact hS2
        have HX0 : Hid (decE1 bs = 0) := Lib.hid (HX1.out.trans hq0)
        have HQ0 := Lib.hid hq0
        rw [hq0] at d1
        clear hq0 hq0' hq8 hq8'
        by_cases hn1 : N1 = 0
        · have HEZ : Hid (decE bs = 2) := Lib.hid (by rw [HEE.out, if_pos ⟨HX0.out, .inl hn1⟩])
          have hn1' : ((N1 : Int) == 0) = true := by rw [hn1]; rfl
          go_upto_if 188 with fail
          go_cut [7] from 189 to 191 (fun v7 wd => v7 = .bool fl ∧ wd = w2.setCell ⟨r, 1, none⟩ (.int .i64 2))
          case first =>
            go_wp2
            go_meet
            case rel => exact ⟨rfl, rfl⟩
          case rest =>
            obtain ⟨rfl, rfl⟩ := hcut
            rename_i Kx hKx
            refine hKx _ _ ?_
            refine dec_end w _ D o n c r g6 bs fl ver lock A1 N1 c1 A2 N2 c2 q.bs 2 hcm hnc hwr hw6 hr6 HSB.out htg htz htb HEZ.out (fun h => absurd h (by rw [HEZ.out]; decide)) (fun h => absurd h (by rw [HEZ.out]; decide)) _ ?_
            intro z0 z1 z2 z3 z4 z5 z6 z7 z8 z9 z10 z11 z12 z13 z14 z15 z16 z17 z18 z19 nz ez cs w' q1 q2 q3 q4 q5 q6 q7
            exact HE.out _ _ _ _ _ _ _ _ _ _ _ _ _ _ _ _ _ _ _ _ _ _ _ _ _ _ _ _ _ _ _ _ _ _ _ _ _ _ _ _ _ _ _ _ _ _ _ _ _ _ _ _ _ _ _ _ _ _ _ _ _ _ _ _ _ nz ez cs w' q1 q2 q3 q4 q5 q6 q7
        · have hn1' : ((N1 : Int) == 0) = false := by rw [beq_eq_false_iff_ne]; omega
          by_cases hn2 : N2 = 0
          · have HEZ : Hid (decE bs = 2) := Lib.hid (by rw [HEE.out, if_pos ⟨HX0.out, .inr (.inl hn2)⟩])
            have hn2' : ((N2 : Int) == 0) = true := by rw [hn2]; rfl
            go_upto_if 188 with fail
            go_cut [7] from 189 to 191 (fun v7 wd => v7 = .bool fl ∧ wd = w2.setCell ⟨r, 1, none⟩ (.int .i64 2))
            case first =>
              go_wp2
              go_meet
              case rel => exact ⟨rfl, rfl⟩
            case rest =>
              obtain ⟨rfl, rfl⟩ := hcut
              rename_i Kx hKx
              refine hKx _ _ ?_
              refine dec_end w _ D o n c r g6 bs fl ver lock A1 N1 c1 A2 N2 c2 q.bs 2 hcm hnc hwr hw6 hr6 HSB.out htg htz htb HEZ.out (fun h => absurd h (by rw [HEZ.out]; decide)) (fun h => absurd h (by rw [HEZ.out]; decide)) _ ?_
              intro z0 z1 z2 z3 z4 z5 z6 z7 z8 z9 z10 z11 z12 z13 z14 z15 z16 z17 z18 z19 nz ez cs w' q1 q2 q3 q4 q5 q6 q7
              exact HE.out _ _ _ _ _ _ _ _ _ _ _ _ _ _ _ _ _ _ _ _ _ _ _ _ _ _ _ _ _ _ _ _ _ _ _ _ _ _ _ _ _ _ _ _ _ _ _ _ _ _ _ _ _ _ _ _ _ _ _ _ _ _ _ _ _ nz ez cs w' q1 q2 q3 q4 q5 q6 q7
          · have hn2' : ((N2 : Int) == 0) = false := by rw [beq_eq_false_iff_ne]; omega
            have HN1 := Lib.hid hn1
            have HN2 := Lib.hid hn2
            clear hn1 hn2
            have hTK : txK.K (DecS w r g6) w2 (decT bs) [.int .i32 ver, .slice A1 N1 c1, .slice A2 N2 c2, .int .u32 lock] := by
              rw [HT.out]
              exact ⟨A1, N1, c1, A2, N2, c2, rfl, hvr, hlk, h1, h2, h3, h4, hI2, hO2⟩
            have hKK : ∀ w', (∀ k, DecS w r g6 k → k < w2.heap.size → w'.heap[k]? = w2.heap[k]?) → txK.K (fun b => w.heap.size ≤ b) w' (decT bs) [.int .i32 ver, .slice A1 N1 c1, .slice A2 N2 c2, .int .u32 lock] := fun w' hm => txK.mono (fun k hk => hk.1) (txK.move hm hTK)
            have HKK := Lib.hid hKK
            have HTK := Lib.hid hTK
            clear hKK hTK hvr hI2 hO2
            have hND : Hid (decE bs = 0 → decN bs = min n 65536 - q.bs.length ∧ q.bs.length ≤ min n 65536) := Lib.hid (fun h => by
              have h5 := (dec_read HBS.out h).2.2.2.2.1
              have h6 : 4 ≤ (encF (decT bs)).length := by
                unfold encF layF
                simp only [List.length_append, leF_length]
                omega
              have h7 := HN.out
              exact ⟨h7, by omega⟩)
            cases fl with
            | false =>
              have HEZ : Hid (decE bs = 0) := Lib.hid (by rw [HEE.out, if_neg, HX0.out]; rintro ⟨_, h | h | h⟩; exact HN1.out h; exact HN2.out h; cases h.1)
              go_upto_if 188 with fail
              go_cut [7] from 189 to 191 (fun v7 wd => v7 = .bool false ∧ wd = w2)
              case first =>
                go_wp2
                go_meet
                case rel => exact ⟨rfl, rfl⟩
              case rest =>
                obtain ⟨rfl, rfl⟩ := hcut
                rename_i Kx hKx
                refine hKx _ _ ?_
                refine dec_end w _ D o n c r g6 bs false ver lock A1 N1 c1 A2 N2 c2 q.bs 0 hcm hnc hwr hw6 hr6 hSq hg2 hz2 hb2 HEZ.out hND.out (fun _ => HKK.out) _ ?_
                intro z0 z1 z2 z3 z4 z5 z6 z7 z8 z9 z10 z11 z12 z13 z14 z15 z16 z17 z18 z19 nz ez cs w' q1 q2 q3 q4 q5 q6 q7
                exact HE.out _ _ _ _ _ _ _ _ _ _ _ _ _ _ _ _ _ _ _ _ _ _ _ _ _ _ _ _ _ _ _ _ _ _ _ _ _ _ _ _ _ _ _ _ _ _ _ _ _ _ _ _ _ _ _ _ _ _ _ _ _ _ _ _ _ nz ez cs w' q1 q2 q3 q4 q5 q6 q7
            | true =>
              cases hw : (decT bs).hasWit with
              | true =>
                have HEZ : Hid (decE bs = 0) := Lib.hid (by rw [HEE.out, if_neg, HX0.out]; rintro ⟨_, h | h | h⟩; exact HN1.out h; exact HN2.out h; rw [hw] at h; cases h.2)
                have HW := Lib.hid hw
                clear hw
                go_wp2_with fail
                refine (wit_calls _ _ _ _ HTK.out).mono ?_
                rintro e w3 ⟨rfl, hb3⟩
                rw [HW.out]
                have hS3 := hSq.below hb3
                have hg3 := heap_below hb3 hg2
                have hz3 := heap_below hb3 hz2
                have hb3' := below_then hb2 hb2.size hb3
                go_upto_if 188 with fail
                go_cut [7] from 189 to 191 (fun v7 wd => v7 = .bool true ∧ wd = w3)
                case first =>
                  go_wp2
                  go_meet
                  case rel => exact ⟨rfl, rfl⟩
                case rest =>
                  obtain ⟨rfl, rfl⟩ := hcut
                  rename_i Kx hKx
                  refine hKx _ _ ?_
                  refine dec_end w _ D o n c r g6 bs true ver lock A1 N1 c1 A2 N2 c2 q.bs 0 hcm hnc hwr hw6 hr6 hS3 hg3 hz3 hb3' HEZ.out hND.out (fun _ => (fun w' hm => HKK.out w' (fun k hk hlt => (hm k hk (by have := hb3.size; omega)).trans (hb3.block k hlt)))) _ ?_
                  intro z0 z1 z2 z3 z4 z5 z6 z7 z8 z9 z10 z11 z12 z13 z14 z15 z16 z17 z18 z19 nz ez cs w' q1 q2 q3 q4 q5 q6 q7
                  exact HE.out _ _ _ _ _ _ _ _ _ _ _ _ _ _ _ _ _ _ _ _ _ _ _ _ _ _ _ _ _ _ _ _ _ _ _ _ _ _ _ _ _ _ _ _ _ _ _ _ _ _ _ _ _ _ _ _ _ _ _ _ _ _ _ _ _ nz ez cs w' q1 q2 q3 q4 q5 q6 q7
              | false =>
                have HEZ : Hid (decE bs = 2) := Lib.hid (by rw [HEE.out, if_pos ⟨HX0.out, .inr (.inr ⟨rfl, hw⟩)⟩])
                have HW := Lib.hid hw
                clear hw
                go_wp2_with fail
                refine (wit_calls _ _ _ _ HTK.out).mono ?_
                rintro e w3 ⟨rfl, hb3⟩
                rw [HW.out]
                have hS3 := hSq.below hb3
                have hg3 := heap_below hb3 hg2
                have hz3 := heap_below hb3 hz2
                have hb3' := below_then hb2 hb2.size hb3
                have t3 := turned_setCell w3 r 1 (.int .i64 2)
                have hSz : RSt (w3.setCell ⟨r, 1, none⟩ (.int .i64 2)) r D ⟨q.bs, 2⟩ := by
                  obtain ⟨A, n', c', hg', h1', h2', h3', h4', h5', h6'⟩ := hS3
                  exact ⟨A, n', c', blk_set hg' 1 (.int .i64 2), h1', h2', h3'.keepD h5' (t3.block D h6'), h4', h5', h6'⟩
                have d13 := cell_below hb3 d1
                have f13 : w3.frozen? ⟨r, 1, none⟩ = false := by
                  obtain ⟨A, n', c', hg', _⟩ := id hS3
                  exact blk_frozen hg' 1
                have HSZ := Lib.hid hSz
                clear hSz
                go_upto_if 188 with fail
                go_cut [7] from 189 to 191 (fun v7 wd => v7 = .bool true ∧ wd = w3.setCell ⟨r, 1, none⟩ (.int .i64 2))
                case first =>
                  go_wp2
                  go_meet
                  case rel => exact ⟨rfl, rfl⟩
                case rest =>
                  obtain ⟨rfl, rfl⟩ := hcut
                  rename_i Kx hKx
                  refine hKx _ _ ?_
                  refine dec_end w _ D o n c r g6 bs true ver lock A1 N1 c1 A2 N2 c2 q.bs 2 hcm hnc hwr hw6 hr6 HSZ.out ((t3.block g6 (fun e => hr6 e.symm)).trans hg3) ((t3.block w.heap.size (by omega)).trans hz3) (t3.below hb3' (by omega)) HEZ.out (fun h => absurd h (by rw [HEZ.out]; decide)) (fun h => absurd h (by rw [HEZ.out]; decide)) _ ?_
                  intro z0 z1 z2 z3 z4 z5 z6 z7 z8 z9 z10 z11 z12 z13 z14 z15 z16 z17 z18 z19 nz ez cs w' q1 q2 q3 q4 q5 q6 q7
                  exact HE.out _ _ _ _ _ _ _ _ _ _ _ _ _ _ _ _ _ _ _ _ _ _ _ _ _ _ _ _ _ _ _ _ _ _ _ _ _ _ _ _ _ _ _ _ _ _ _ _ _ _ _ _ _ _ _ _ _ _ _ _ _ _ _ _ _ nz ez cs w' q1 q2 q3 q4 q5 q6 q7
      · have hq0' : (q.e == 0) = false := by rw [beq_eq_false_iff_ne]; exact hq0
        have HEZ : Hid (decE bs = q.e) := Lib.hid (by rw [HEE.out, HX1.out, if_neg (fun h => hq0 h.1)])
        have hSq : RSt w2 r D ⟨q.bs, q.e⟩ := hS2
        have HQ0 := Lib.hid hq0
        clear hq0
        go_upto_if 188 with fail
        go_cut [7] from 189 to 191 (fun v7 wd => v7 = .bool fl ∧ wd = w2)
        case first =>
          go_wp2
          go_meet
          case rel => exact ⟨rfl, rfl⟩
        case rest =>
          obtain ⟨rfl, rfl⟩ := hcut
          rename_i Kx hKx
          refine hKx _ _ ?_
          refine dec_end w _ D o n c r g6 bs fl ver lock A1 N1 c1 A2 N2 c2 q.bs q.e hcm hnc hwr hw6 hr6 hSq hg2 hz2 hb2 HEZ.out (fun h => absurd h (by rw [HEZ.out]; exact HQ0.out)) (fun h => absurd h (by rw [HEZ.out]; exact HQ0.out)) _ ?_
          intro z0 z1 z2 z3 z4 z5 z6 z7 z8 z9 z10 z11 z12 z13 z14 z15 z16 z17 z18 z19 nz ez cs w' q1 q2 q3 q4 q5 q6 q7
          exact HE.out _ _ _ _ _ _ _ _ _ _ _ _ _ _ _ _ _ _ _ _ _ _ _ _ _ _ _ _ _ _ _ _ _ _ _ _ _ _ _ _ _ _ _ _ _ _ _ _ _ _ _ _ _ _ _ _ _ _ _ _ _ _ _ _ _ nz ez cs w' q1 q2 q3 q4 q5 q6 q7
end Go.Proofs.YtclkgflficlmiaaDoor
end

/-! ## DecFin -/
section
set_option maxRecDepth 100000
set_option linter.unusedVariables false
namespace Go.Proofs.YtclkgflficlmiaaDoor
open Go Go.RowKit
def txZero : List Value := [.int .i32 0, .slice none 0 0, .slice none 0 0, .int .u32 0]
def DecPost (w : World) (bs : List Int) (e : Ending) (w' : World) : Prop :=
  ∃ cs, e = .returned (.tuple #[.agg cs.toArray, .int .i64 ((if decE bs = 0 then decN bs else 0 : Nat) : Int), .int .i64 (decE bs)]) ∧ (decE bs = 0 → txK.K (fun b => w.heap.size ≤ b) w' (decT bs) cs) ∧ (decE bs ≠ 0 → cs = txZero) ∧ Below w.heap.size w w'
theorem results_cell_tmp2 {P : Program} {fn : Func} {p q s : Tmp} {ty : TypeId} (h : fn.results = #[.cell p ty, .tmp q, .tmp s]) (tmps : Array Value) (w : World) (g : Nat) (t : TypeId) (cs : Array Value) (fr : Nat × Nat) (d : TypeDesc)
    (hp : tmps.getD p undef = .pointer (some ⟨g, 0, none⟩)) (hg : w.heap[g]? = some (.cells cs t fr))
    (hu : P.underlying ty = some d) (hd : (match d with | .struct _ | .array _ _ => true | _ => false) = true) (hi : (P.info? ty).map (·.size) = some cs.size) :
    (results fn tmps).run P w = .ok (.tuple #[.agg cs, tmps.getD q undef, tmps.getD s undef]) w := by
  have hp' : tmps[p]?.getD undef = .pointer (some ⟨g, 0, none⟩) := by simpa using hp
  simp [results, h, hp', asAddr, run_loadVar_row w g t ty cs fr d hg hu hd hi]
theorem wit_all {w : World} {lo r gi : Nat} {xs ys : List TIn} {vs : List Value} (h : WitSt w lo r gi xs.length xs ys vs) (hi : ∀ x ∈ xs, x.id.length = 32) (S : Nat → Prop) (hS : S gi) (hSS : ∀ b, lo ≤ b → b ≠ r → b ≠ gi → S b) : inK.C S w (some ⟨gi, 0, none⟩) ys.length ys := by
  obtain ⟨h1, h2, h3, h4, _⟩ := h
  refine h3.toK h1 hS ys h2 (fun i x y v hx hy hv => ?_) hi
  obtain ⟨cs, hK, hcs⟩ := h4 i x y v hx hy hv
  exact ⟨cs, inK.mono (fun b hb => hSS b hb.1 hb.2.1 hb.2.2) hK, hcs⟩
theorem two_C {α : Type} {d : RK α} {S S' : Nat → Prop} {w w1 : World} {A : Option Addr} {n : Nat} {xs : List α} (h : d.C S w A n xs) (hm : ∀ k, S k → k < w.heap.size → w1.heap[k]? = w.heap[k]?) (hS : ∀ k, S k → S' k) : d.C S' w1 A n xs := (h.move hm).mono hS
theorem in_wit0 {w : World} {base n c : Nat} {A : Option Addr} {xs : List TIn} (h : InOwn w base (.slice A n c) n xs) : ∀ x ∈ xs, x.wit = [] := by
  obtain ⟨_, cells, _, hc⟩ := h
  intro x hx
  obtain ⟨i, hi⟩ := List.getElem?_of_mem hx
  obtain ⟨cs, hK, _⟩ := hc i x hi
  exact hK.2.2
theorem loopP_max {α : Type} (f : PSt → α × PSt) : ∀ (n : Nat) (p : PSt), (loopP f n p).1.length ≤ n
  | 0, _ => Nat.le_refl _
  | n + 1, p => by
    rw [loopP]
    split
    · exact Nat.zero_le _
    · have := loopP_max f n (f p).2
      simp only [List.length_cons]
      omega
/-- Inputs of the call's own with no witness yet are inputs. -/
theorem InOwn.C {w : World} {base n c : Nat} {A : Option Addr} {xs : List TIn} (h : InOwn w base (.slice A n c) n xs) (S : Nat → Prop) (hS : ∀ b, base ≤ b → S b) : inK.C S w A n xs := by
  rcases Nat.eq_zero_or_pos n with h0 | h0
  · subst h0
    have := List.eq_nil_of_length_eq_zero h.1
    subst this
    exact RK.C.nil _ _ _ _
  · obtain ⟨g, rfl, hb, hlt, _, _, hok, hrow⟩ := InOwn.row h h0
    have hl := h.1
    have hw := in_wit0 h
    have := hrow.toK (S := S) (by rw [List.length_replicate, hl]) (hS g hb) xs rfl (fun i x y v hx hy hv => by
      obtain rfl : x = y := Option.some.inj (hx.symm.trans hy)
      have hxm := List.mem_of_getElem? hx
      rw [List.getElem?_replicate] at hv
      split at hv
      · obtain rfl := Option.some.inj hv
        exact ⟨_, ⟨none, 0, 0, rfl, hok x hxm, Nat.le_refl _, Nat.zero_le _, by rw [hw x hxm]; exact RK.C.nil _ _ _ _⟩, rfl⟩
      · cases hv) (fun x hx => (hok x hx).idl)
    rwa [hl] at this
set_option maxHeartbeats 8000000 in
theorem dec_calls (w : World) (D o n c : Nat) (bs : List Int) (hnc : n ≤ c) (hcm : c ≤ maxLen) (hr : Rd w (some ⟨D, o, none⟩) n (nums .u8 bs)) (hD : D < w.heap.size) (hbs : Bytes bs) :
    Calls Tryd.prog 37 #[.slice (some ⟨D, o, none⟩) n c] w (DecPost w bs) := by
  have hcm' := hcm
  unfold maxLen at hcm'
  have hl : bs.length = n := by have := hr.1; rwa [nums_length] at this
  have hm1 : min n 65536 ≤ n := Nat.min_le_left _ _
  obtain ⟨m, hm⟩ : ∃ m, min n 65536 = m := ⟨_, rfl⟩
  have k1 := fun W => cut_head (some ⟨D, o, none⟩) n c m (by omega) W
  have hmi : min (n : Int) 65536 = (m : Int) := by omega
  go_enter Tryd.func37, Tryd.ntmps37
  go_upto_region 3 with fail
  have HM := Lib.hid hm
  have HL := Lib.hid hl
  have p0b : Bytes (bs.take 65536) := hbs.take _
  have hr0 : Rd w (some ⟨D, o, none⟩) m (nums .u8 (bs.take 65536)) := by
    have := hr.take_ m (by omega)
    have e : (nums .u8 bs).take m = nums .u8 (bs.take 65536) := by
      rw [nums_take]
      congr 1
      rw [← hm, ← hl]
      exact (List.take_eq_take_iff.2 (by omega))
    rwa [e] at this
  have hbz : Below w.heap.size w (w.alloc (.cells #[.int .i32 0, .slice none 0 0, .slice none 0 0, .int .u32 0] 54)) := (Below.refl _ _).alloc (Nat.le_refl _) _
  have hz0 := heap_alloc_new w (.cells #[.int .i32 0, .slice none 0 0, .slice none 0 0, .int .u32 0] 54)
  have hzs : (w.alloc (.cells #[.int .i32 0, .slice none 0 0, .slice none 0 0, .int .u32 0] 54)).heap.size = w.heap.size + 1 := by simp
  obtain ⟨wz, hwz⟩ : ∃ wz, w.alloc (.cells #[.int .i32 0, .slice none 0 0, .slice none 0 0, .int .u32 0] 54) = wz := ⟨_, rfl⟩
  rw [hwz] at hbz hz0 hzs ⊢
  clear hwz
  have hba : Below wz.heap.size wz ((wz.alloc (.cells #[.slice (some ⟨D, o, none⟩) m c, .int .i64 0] 125)).alloc (.cells #[.int .i32 0, .slice none 0 0, .slice none 0 0, .int .u32 0] 54)) :=
    ((Below.refl _ _).alloc (Nat.le_refl _) _).alloc (by simp) _
  have hS0 : RSt ((wz.alloc (.cells #[.slice (some ⟨D, o, none⟩) m c, .int .i64 0] 125)).alloc (.cells #[.int .i32 0, .slice none 0 0, .slice none 0 0, .int .u32 0] 54)) (w.heap.size + 1) D ⟨bs.take 65536, 0⟩ := by
    refine ⟨_, m, c, ?_, by omega, hcm, (hr0.below hbz).below hba, p0b, (fun ad h => ⟨o, (Option.some.inj h).symm⟩), by omega⟩
    exact blk_alloc (by have := heap_alloc_new wz (.cells #[.slice (some ⟨D, o, none⟩) m c, .int .i64 0] 125); rwa [hzs] at this) _
  have hg0 : ((wz.alloc (.cells #[.slice (some ⟨D, o, none⟩) m c, .int .i64 0] 125)).alloc (.cells #[.int .i32 0, .slice none 0 0, .slice none 0 0, .int .u32 0] 54)).heap[w.heap.size + 1 + 1]? = some (.cells (tCells 0 (.slice none 0 0) (.slice none 0 0) 0) 54) := by
    have := heap_alloc_new (wz.alloc (.cells #[.slice (some ⟨D, o, none⟩) m c, .int .i64 0] 125)) (.cells #[.int .i32 0, .slice none 0 0, .slice none 0 0, .int .u32 0] 54)
    simpa [hzs] using this
  have hs0 : w.heap.size + 1 + 1 + 1 ≤ ((wz.alloc (.cells #[.slice (some ⟨D, o, none⟩) m c, .int .i64 0] 125)).alloc (.cells #[.int .i32 0, .slice none 0 0, .slice none 0 0, .int .u32 0] 54)).heap.size := by simp [hzs]
  refine wp_gen (q := fun wi => RSt wi (w.heap.size + 1) D ⟨bs.take 65536, 0⟩ ∧ wi.heap[w.heap.size + 1 + 1]? = some (.cells (tCells 0 (.slice none 0 0) (.slice none 0 0) 0) 54) ∧ Below wz.heap.size wz wi ∧ w.heap.size + 1 + 1 + 1 ≤ wi.heap.size) ⟨hS0, hg0, hba, hs0⟩ (fun wi hw => ?_)
  have HZS := Lib.hid hzs
  clear hS0 hg0 hba hs0 hr0 k1 hmi hm hl hr hm1 hzs
  obtain ⟨hS, hg, hb, hsz⟩ := hw
  have hv := le4_takeB (p := ⟨bs.take 65536, 0⟩) p0b
  have hwv : IntKind.u32.wrap (ofLE ((⟨bs.take 65536, 0⟩ : PSt).takeB 4)) = ofLE ((⟨bs.take 65536, 0⟩ : PSt).takeB 4) := by rw [IntKind.wrap_u32]; omega
  clear hv
  go_wp2_with fail
  refine (rlit_calls _ _ D _ 4 (by decide) hS _ rfl).mono ?_
  rintro e w1 ⟨rfl, hS1, hG1⟩
  have hg1 := heap_grown hG1 hg (fun e => by have := Option.some.inj e; omega)
  have hb1 := hb.grown hG1 hb.size (fun k e => by cases e; have := HZS.out; omega)
  have hs1 := hG1.size
  have cv1 := blk_cell hg1 (i := 0) (v := .int .i32 0) rfl
  have fv1 := blk_frozen hg1 0
  clear hG1 hg hb hS
  go_upto_region 4 with fail
  obtain ⟨ver, hver⟩ : ∃ ver, wrap32 (ofLE ((⟨bs.take 65536, 0⟩ : PSt).takeB 4)) = ver := ⟨_, rfl⟩
  have HVER : Hid (IntKind.i32.wrap (ofLE ((⟨bs.take 65536, 0⟩ : PSt).takeB 4)) = ver) := Lib.hid (by rw [← hver]; exact IntWalk.i32_left _)
  rw [hver]
  have hS2 := hS1.keep (w' := w1.setCell ⟨w.heap.size + 1 + 1, 0, none⟩ (.int .i32 ver)) ((turned_setCell w1 _ 0 _).block _ (by omega)) ((turned_setCell w1 _ 0 _).block _ (by omega))
  have hg2 := blk_set hg1 0 (.int .i32 ver)
  have hb2 := (turned_setCell w1 (w.heap.size + 1 + 1) 0 (.int .i32 ver)).below hb1 (by have := HZS.out; omega)
  have hs2 : w.heap.size + 1 + 1 + 1 ≤ (w1.setCell ⟨w.heap.size + 1 + 1, 0, none⟩ (.int .i32 ver)).heap.size := by rw [(turned_setCell w1 _ 0 _).size]; omega
  obtain ⟨p1, hp1⟩ : ∃ p1, (⟨bs.take 65536, 0⟩ : PSt).take 4 = p1 := ⟨_, rfl⟩
  have HWd : Hid (decW bs = decide (p1.e = 0 ∧ 2 ≤ p1.bs.length ∧ rd p1.bs 0 = 0 ∧ rd p1.bs 1 = 1)) := Lib.hid (by unfold decW; rw [hp1])
  have HP2 : Hid (decP2 bs = if decW bs then p1.take 2 else p1) := Lib.hid (by unfold decP2; rw [hp1])
  rw [hp1] at hS2
  refine wp_gen (q := fun wi => RSt wi (w.heap.size + 1) D p1 ∧ wi.heap[w.heap.size + 1 + 1]? = some (.cells (tCells ver (.slice none 0 0) (.slice none 0 0) 0) 54) ∧ Below wz.heap.size wz wi ∧ w.heap.size + 1 + 1 + 1 ≤ wi.heap.size) ⟨hS2, hg2, hb2, hs2⟩ (fun w2 hw => ?_)
  clear hS2 hg2 hb2 hs2 hp1 hver hS1 hg1 hb1 hs1 cv1 fv1 hwv hsz
  obtain ⟨hS2, hg2, hb2, hs2⟩ := hw
  go_cut [7] from 23 to 53 (fun v7 wd => v7 = .bool (decW bs) ∧ wd = w2)
  case first =>
    obtain ⟨A1, n1, c1, hgr, hn1, hc1, hr1, hby1, _, _⟩ := id hS2
    have hl1 : p1.bs.length = n1 := by have := hr1.1; rwa [nums_length] at this
    have q0 := blk_cell hgr (i := 0) (v := .slice A1 n1 c1) rfl
    have q1 := blk_cell hgr (i := 1) (v := .int .i64 p1.e) rfl
    have HL1 := Lib.hid hl1
    clear hgr hl1 hg2 hb2 hs2 hS2
    unfold maxLen at hc1
    by_cases he : p1.e = 0
    · have he' : (p1.e == 0) = true := by rw [he]; rfl
      by_cases h2 : 2 ≤ n1
      · have h2' : (2 : Int) ≤ (n1 : Int) := by omega
        obtain ⟨b1, o1, hA1, hc⟩ := hr1.2 (by omega)
        subst hA1
        have x0 := nums_get .u8 p1.bs 0 (by have := HL1.out; omega)
        have x1 := nums_get .u8 p1.bs 1 (by have := HL1.out; omega)
        have y0 := hc 0 _ x0
        have y1 := hc 1 _ x1
        rw [Nat.add_zero] at y0
        have z0 : (0 : Int) < (n1 : Int) := by omega
        have z1 : (1 : Int) < (n1 : Int) := by omega
        clear hc x0 x1 hr1
        by_cases h3 : rd p1.bs 0 = 0
        · have h3' : (rd p1.bs 0 == 0) = true := by rw [h3]; rfl
          by_cases h4 : rd p1.bs 1 = 1
          · have h4' : (rd p1.bs 1 == 1) = true := by rw [h4]; rfl
            have hw : decW bs = true := by rw [HWd.out]; exact decide_eq_true ⟨he, by have := HL1.out; omega, h3, h4⟩
            have HW := Lib.hid hw
            clear hw h3 h4 he
            go_wp2
            go_meet
            case rel => exact ⟨by rw [HW.out], rfl⟩
          · have h4' : (rd p1.bs 1 == 1) = false := by rw [beq_eq_false_iff_ne]; exact h4
            have hw : decW bs = false := by rw [HWd.out]; exact decide_eq_false (fun h => h4 h.2.2.2)
            have HW := Lib.hid hw
            clear hw h3 h4 he
            go_wp2
            go_meet
            case rel => exact ⟨by rw [HW.out], rfl⟩
        · have h3' : (rd p1.bs 0 == 0) = false := by rw [beq_eq_false_iff_ne]; exact h3
          have hw : decW bs = false := by rw [HWd.out]; exact decide_eq_false (fun h => h3 h.2.2.1)
          have HW := Lib.hid hw
          clear hw h3 he
          go_wp2
          go_meet
          case rel => exact ⟨by rw [HW.out], rfl⟩
      · have h2' : ¬ (2 : Int) ≤ (n1 : Int) := by omega
        have hw : decW bs = false := by rw [HWd.out]; exact decide_eq_false (fun h => h2 (by have := HL1.out; omega))
        have HW := Lib.hid hw
        clear hw he
        go_wp2
        go_meet
        case rel => exact ⟨by rw [HW.out], rfl⟩
    · have he' : (p1.e == 0) = false := by rw [beq_eq_false_iff_ne]; exact he
      have hw : decW bs = false := by rw [HWd.out]; exact decide_eq_false (fun h => he h.1)
      have HW := Lib.hid hw
      clear hw he
      go_wp2
      go_meet
      case rel => exact ⟨by rw [HW.out], rfl⟩
  case rest =>
    obtain ⟨rfl, rfl⟩ := hcut
    obtain ⟨fl, hfl⟩ : ∃ fl, decW bs = fl := ⟨_, rfl⟩
    rw [hfl]
    have HFL := Lib.hid hfl
    clear hfl
    go_upto_if 54 with fail
    go_cut [7] from 55 to 56 (fun v7 wd => v7 = .bool fl ∧ RSt wd (w.heap.size + 1) D (decP2 bs) ∧ wd.heap[w.heap.size + 1 + 1]? = some (.cells (tCells ver (.slice none 0 0) (.slice none 0 0) 0) 54) ∧ Below wz.heap.size wz wd ∧ w.heap.size + 1 + 1 + 1 ≤ wd.heap.size)
    case first =>
      cases fl with
      | true =>
        have hp2 : p1.take 2 = decP2 bs := by rw [HP2.out, HFL.out]; rfl
        go_wp2_with fail
        refine (take_calls _ _ D _ 2 (by decide) hS2 _ rfl).mono ?_
        rintro e w3 ⟨A3, m3, c3, rfl, hm3, hr3, hA3, hS3, hG3⟩
        rw [hp2] at hS3
        have hg3 := heap_grown hG3 hg2 (fun e => by have := Option.some.inj e; omega)
        have hb3 := hb2.grown hG3 hb2.size (fun k e => by cases e; have := HZS.out; omega)
        have hs3 := Nat.le_trans hs2 hG3.size
        clear hG3 hg2 hb2 hS2 hr3 hA3 hs2
        go_wp2
        go_meet
        case rel => exact ⟨rfl, hS3, hg3, hb3, hs3⟩
      | false =>
        have hp2 : p1 = decP2 bs := by rw [HP2.out, HFL.out]; rfl
        rw [hp2] at hS2
        go_wp2
        go_meet
        case rel => exact ⟨rfl, hS2, hg2, hb2, hs2⟩
    case rest =>
      obtain ⟨rfl, hS3, hg3, hb3, hs3⟩ := hcut
      clear hS2 hg2 hb2 hs2
      have hby2 := hS3.bytes
      have HI : Hid (decI bs = insP ((decP2 bs).countV 1024) ((decP2 bs).count 1024)) := Lib.hid rfl
      have hV1 := PSt.countV_le (decP2 bs) 1024
      go_wp2_with fail
      refine (count_calls _ _ D (decP2 bs) 1024 (by decide) hS3 _ rfl).mono ?_
      rintro e w4 ⟨rfl, hS4, hG4⟩
      have hg4 := heap_grown hG4 hg3 (fun e => by have := Option.some.inj e; omega)
      have hb4 := hb3.grown hG4 hb3.size (fun k e => by cases e; have := HZS.out; omega)
      have hs4 := Nat.le_trans hs3 hG4.size
      clear hG4 hg3 hb3 hS3 hs3
      go_upto_block 0 with fail
      refine dec_ins wz w4 (w.heap.size + 1) D (w.heap.size + 1 + 1) (w.heap.size + 1 + 1 + 1) _ ver _ hV1 (by have := HZS.out; omega) (by have := HZS.out; omega) (by omega) (by omega) (by omega) (by have := HZS.out; omega) hs4 hS4 hg4 hb4 _ ?_
      intro y0 y1 y2 y3 y4 y5 y6 y7 y8 y9 y10 y11 y12 y13 y14 y15 y16 y17 y18 y19 y20 y21 y22 y23 y24 y25 y26 y27 y28 y29 y30 y31 y32 A1 N1 c1 w5 hS5 hO5 hg5 hb5 hs5
      rw [← HI.out] at hS5 hO5
      have hl5 := RK.Own.len hO5
      have hle5 := RK.Own.le_ hO5
      have hlN : N1 ≤ 1024 := by
        rw [← hl5, HI.out, insP_eq]
        exact Nat.le_trans (loopP_max _ _ _) hV1
      clear hS4 hg4 hb4 hs4 hV1 hby2
      have HO : Hid (decO bs = outsP ((decI bs).2.countV 1024) ((decI bs).2.count 1024)) := Lib.hid rfl
      have hV2 := PSt.countV_le (decI bs).2 1024
      go_wp2_with fail
      refine (count_calls _ _ D (decI bs).2 1024 (by decide) hS5 _ rfl).mono ?_
      rintro e w6 ⟨rfl, hS6, hG6⟩
      have hg6 := heap_grown hG6 hg5 (fun e => by have := Option.some.inj e; omega)
      have hb6 := hb5.grown hG6 hb5.size (fun k e => by cases e; have := HZS.out; omega)
      have hs6 := Nat.le_trans hs5 hG6.size
      have hO6 : InOwn w6 (w.heap.size + 1 + 1 + 1) (.slice A1 N1 c1) N1 (decI bs).1 := RK.Own.grown_ hO5 hG6 (fun k e => by cases e; omega)
      clear hG6 hg5 hb5 hS5 hs5 hO5
      go_upto_block 2 with fail
      refine dec_outs wz w6 (w.heap.size + 1) D (w.heap.size + 1 + 1) w6.heap.size _ ver (.slice A1 N1 c1) _ hV2 (by have := HZS.out; omega) (by have := HZS.out; omega) (by omega) (by omega) (by omega) (by have := HZS.out; omega) (Nat.le_refl _) hS6 hg6 hb6 _ ?_
      intro v0 v1 v2 v3 v4 v5 v6 v7 v8 v9 v10 v11 v12 v13 v14 v15 v16 v17 v18 v19 v20 v21 A2 N2 c2 w7 hS7 hO7 hg7 hb7 hs7 hT7
      rw [← HO.out] at hS7 hO7
      have hle7 := RK.Own.le_ hO7
      have hOC7 : outK.C (fun b => w6.heap.size ≤ b) w7 A2 N2 (decO bs).1 := RK.Own.C_ hO7 (fun _ h => h.elim) (fun b hb => (RK.Own.lt hO7 b hb).1)
      have hlt6 := hs6
      clear hS6 hg6 hb6 hV2 hO7
      have hC2 := hle5.2
      have hC4 := hle7.2
      have hcm5 := hle5.2
      unfold maxLen at hcm5
      have hz7 : w7.heap[w.heap.size]? = some (.cells (tCells 0 (.slice none 0 0) (.slice none 0 0) 0) 54) := heap_below hb7 hz0
      have hbw7 := below_then hbz hbz.size hb7
      have d7 := blk_cell hg7 (i := 1) (v := .slice A1 N1 c1) rfl
      go_upto_if 114 with fail
      go_cut [7, 10] from 115 to 146 (fun v7 v10 wd => v7 = .bool fl ∧ RSt wd (w.heap.size + 1) D (decWs bs).2 ∧ wd.heap[w.heap.size + 1 + 1]? = some (.cells (tCells ver (.slice A1 N1 c1) (.slice A2 N2 c2) 0) 54) ∧ Below wz.heap.size wz wd ∧ inK.C (DecS w (w.heap.size + 1) (w.heap.size + 1 + 1)) wd A1 N1 (decWs bs).1 ∧ outK.C (DecS w (w.heap.size + 1) (w.heap.size + 1 + 1)) wd A2 N2 (decO bs).1)
      case first =>
        have hIC0 : inK.C (DecS w (w.heap.size + 1) (w.heap.size + 1 + 1)) w7 A1 N1 (decI bs).1 := two_C (InOwn.C hO6 (fun b => w.heap.size + 1 + 1 + 1 ≤ b) (fun b h => h)) (fun k hk hlt => hT7 k hlt (by omega) (by omega)) (fun k hk => by unfold DecS; omega)
        have hOC : outK.C (DecS w (w.heap.size + 1) (w.heap.size + 1 + 1)) w7 A2 N2 (decO bs).1 := hOC7.mono (fun k hk => by unfold DecS; omega)
        cases fl with
        | false =>
          have hD1 : decWs bs = ((decI bs).1, (decO bs).2) := by unfold decWs; rw [HFL.out]; rfl
          have HD1 := Lib.hid hD1
          clear hD1
          go_wp2
          go_meet
          case rel => exact ⟨rfl, by rw [HD1.out]; exact hS7, hg7, hb7, by rw [HD1.out]; exact hIC0, hOC⟩
        | true =>
          have HD1 : Hid (decWs bs = allW (decI bs).1 (decO bs).2) := Lib.hid (by unfold decWs; rw [HFL.out]; rfl)
          by_cases hN0 : N1 = 0
          · have hnil : (decI bs).1 = [] := List.eq_nil_of_length_eq_zero (by omega)
            have HD2 : Hid (decWs bs = ((decI bs).1, (decO bs).2)) := Lib.hid (by rw [HD1.out, hnil]; rfl)
            clear hnil
            subst hN0
            go_wp2
            go_loopw [118] (fun v118 wr => v118 = .int .i64 0 ∧ wr = w7) (fun v _ => 0)
            case atStart => exact ⟨rfl, rfl⟩
            case round =>
              obtain ⟨rfl, rfl⟩ := hrel
              go_wp2
              go_meet
              case rel => exact ⟨rfl, by rw [HD2.out]; exact hS7, hg7, hb7, by rw [HD2.out]; exact hIC0, hOC⟩
          · obtain ⟨gi, hA1, hgb, hglt, hnc1, _, hok1, hrow⟩ := InOwn.row hO6 (by omega)
            subst hA1
            have hrow7 := hrow.move (hT7 gi hglt (by omega) (by omega))
            have hs7' := hs7
            clear hIC0
            go_upto_block 4 with fail
            refine dec_wits wz w7 (w.heap.size + 1) D (w.heap.size + 1 + 1) gi w7.heap.size N1 c1 ver (.slice A2 N2 c2) (decI bs).1 (decO bs).2 (by have := HZS.out; omega) (by have := HZS.out; omega) (by have := HZS.out; omega) (by omega) (by omega) (by omega) (by omega) (by omega) (by omega) (by have := HZS.out; omega) (Nat.le_refl _) hl5 hle5.1 hC2 hok1 hlN hS7 hg7 hrow7 hb7 _ ?_
            intro z0 z1 z2 z3 z4 z5 z6 z7 z8 z9 z10 z11 z12 z13 z14 z15 z16 z17 z18 z19 z20 z21 z22 z23 z24 z25 z26 z27 z28 z29 vs ys w8 p8 hall hS8 hW8 hg8 hb8 hT8
            rw [hall] at HD1
            have hyl : ys.length = N1 := hW8.2.1
            have hIC8 : inK.C (DecS w (w.heap.size + 1) (w.heap.size + 1 + 1)) w8 (some ⟨gi, 0, none⟩) N1 ys := by
              rw [← hyl]
              rw [← hl5] at hW8
              exact wit_all hW8 (fun x hx => (hok1 x hx).idl) _ (by unfold DecS; omega) (fun b h1 h2 h3 => by unfold DecS; omega)
            have hOC8 : outK.C (DecS w (w.heap.size + 1) (w.heap.size + 1 + 1)) w8 A2 N2 (decO bs).1 := two_C hOC7 (fun k hk hlt => hT8 k hlt (by omega) (by omega)) (fun k hk => by unfold DecS; omega)
            clear hS7 hg7 hb7 hrow hrow7 hT7 hT8 hW8 hOC7 hOC hall d7 hok1 hO6
            go_wp2
            go_meet
            case rel => exact ⟨rfl, by rw [HD1.out]; exact hS8, hg8, hb8, by rw [HD1.out]; exact hIC8, hOC8⟩
      case rest =>
        obtain ⟨rfl, hS9, hg9, hb9, hI9, hO9⟩ := hcut
        rename_i Kx hKx
        refine hKx _ _ ?_
        have hz9 := heap_below hb9 hz0
        have hbw9 := below_then hbz hbz.size hb9
        clear hS7 hg7 hb7 hT7 hOC7 d7 hO6 hz7 hbw7
        refine dec_tail w _ D o n c (w.heap.size + 1) (w.heap.size + 1 + 1) bs fl ver A1 N1 c1 A2 N2 c2 (decWs bs).2 hcm hnc HL.out hbs (by omega) (by omega) (by omega) hD hS9 hg9 hz9 hbw9 rfl HFL.out HVER.out hI9 hO9 hle5.1 hC2 hle7.1 hC4 _ ?_
        intro x0 x1 x2 x3 x4 x5 x6 x7 x8 x9 x10 x11 x12 x13 x14 x15 x16 x17 x18 x19 x20 x21 x22 x23 x24 x25 x26 x27 x28 x29 x30 x31 x32 x33 x34 x35 x36 x37 x38 x39 x40 x41 x42 x43 x44 x45 x46 x47 x48 x49 x50 x51 x52 x53 x54 x55 x56 x57 x58 x59 x60 x61 x62 x63 x64 nz ez cs w' q1 q2 q3 q4 q5 q6 q7
        subst q1 q2
        exact bodyPost_ret (results_cell_tmp2 rfl _ _ w.heap.size 54 cs.toArray (0, 0) _ rfl q3 Tryd.underlying54 rfl (by rw [List.size_toArray, q4]; kernel_rfl)) rfl ⟨cs, rfl, q5, q6, q7⟩
theorem txK_form {S : Nat → Prop} {w : World} {t : TTx} {cs : List Value} (h : txK.K S w t cs) : ∃ A1 c1 A2 c2, cs = [.int .i32 t.ver, .slice A1 t.ins.length c1, .slice A2 t.outs.length c2, .int .u32 t.lock] ∧ t.ins.length ≤ c1 ∧ c1 ≤ maxLen ∧ t.outs.length ≤ c2 ∧ c2 ≤ maxLen ∧ inK.C S w A1 t.ins.length t.ins ∧ outK.C S w A2 t.outs.length t.outs := by
  obtain ⟨A1, n1, c1, A2, n2, c2, rfl, _, _, h1, h2, h3, h4, hI, hO⟩ := h
  obtain rfl := hI.len
  obtain rfl := hO.len
  exact ⟨A1, c1, A2, c2, rfl, h1, h2, h3, h4, hI, hO⟩
end Go.Proofs.YtclkgflficlmiaaDoor
end
