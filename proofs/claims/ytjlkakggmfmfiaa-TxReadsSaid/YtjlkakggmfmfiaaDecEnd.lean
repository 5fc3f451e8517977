/- tx.Decode: what it hands back. -/
import Derived.Test.YtjlkakggmfmfiaaDecWits
import Derived.Test.YtjlkakggmfmfiaaTxFn
set_option maxRecDepth 100000
set_option linter.unusedVariables false
namespace Go.Proofs.Ytjlkakggmfmfiaa
open Go Go.RowKit
def headR : Code → Option Nat
  | .region id _ _ => some id
  | .seq a _ => headR a
  | _ => none
/-- The part of a function's code that begins with a region. -/
def findT (n : Nat) : Code → Option Code
  | .seq a b => if headR a = some n then some (.seq a b) else match findT n a with
    | some c => some c
    | none => findT n b
  | .scope c => findT n c
  | .block _ c => findT n c
  | .loop c => findT n c
  | _ => none
noncomputable def decT39 : Code := ((Try.f18.body.bind (findT 39)).getD .skip)
/-- The blocks that the transaction lies in. -/
abbrev DecS (w : World) (r g6 : Nat) (b : Nat) : Prop := w.heap.size ≤ b ∧ b ≠ r ∧ b ≠ g6 ∧ b ≠ w.heap.size
theorem Turned.cell {w w' : World} {g b i : Nat} (h : Turned w g w') (hb : b ≠ g) : w'.cell? ⟨b, i, none⟩ = w.cell? ⟨b, i, none⟩ := cell_move (h.block b hb)
theorem info_tx4 (x0 x1 x2 x3 : Value) : (Try.prog.info? 35).map (·.size) = some (#[x0, x1, x2, x3] : Array Value).size := by rw [show (#[x0, x1, x2, x3] : Array Value).size = 4 from rfl]; kernel_rfl
theorem one_tx4 (v l : Int) (A1 : Option Addr) (N1 c1 : Nat) (A2 : Option Addr) (N2 c2 : Nat) : (tCells v (.slice A1 N1 c1) (.slice A2 N2 c2) l).all (·.oneCell') = true := by
  rw [Array.all_eq_true']
  intro u hu
  have hu' : u ∈ [Value.int .i32 v, .slice A1 N1 c1, .slice A2 N2 c2, .int .u32 l] := by simpa using hu
  simp only [List.mem_cons, List.not_mem_nil, or_false] at hu'
  rcases hu' with rfl | rfl | rfl | rfl <;> rfl
set_option maxHeartbeats 8000000 in
theorem dec_end {u1 u8 u9 u10 u11 u12 u13 u14 u15 u16 u17 u18 u19 u20 u21 u22 u23 u24 u25 u26 u27 u28 u29 u30 u31 u32 u33 u34 u35 u36 u37 u38 u39 u40 u41 u42 u43 u44 u45 u46 u47 u48 u49 u50 u51 u52 u53 u54 u55 u56 u57 u58 u59 u60 u61 u62 u63 u64 u65 u66 u67 u68 u69 u70 u71 u72 u73 u74 u75 u76 u77 u78 u79 u80 u81 u82 u83 u84 u85 u86 u87 u88 u89 u90 u91 u92 u93 u94 u95 u96 u97 u98 u99 u100 u101 u102 u103 u104 u105 u106 u107 u108 u109 u110 u111 u112 u113 u114 u115 u116 u117 u118 u119 u120 u121 u122 u123 u124 u125 u126 u127 u128 u129 u130 u131 u132 u133 u134 u135 u136 u137 u138 u139 u140 u141 u142 u143 u144 u145 u146 u147 u148 u149 u150 u151 u152 u153 u154 u155 u156 u157 u158 u159 u160 u161 u162 u163 u164 u165 u166 u167 u168 u169 u170 u171 u172 u173 u174 u175 u176 u177 u178 u179 u180 u181 u182 u183 u184 u185 u186 u187 u188 u189 u190 u191 u192 u193 u194 u195 u196 u197 u198 u199 u200 u201 u202 u203 u204 u205 u206 u207 u208 u209 u210 u211 : Value} (w wr : World) (D o n c r g6 : Nat) (bs : List Int) (fl : Bool) (ver lock : Int) (A1 : Option Addr) (N1 c1 : Nat) (A2 : Option Addr) (N2 c2 : Nat) (q : List Int) (e1 : Int) (hcm : c ≤ maxLen) (hnc : n ≤ c)
    (hwr : w.heap.size < r) (hw6 : w.heap.size < g6) (hr6 : r ≠ g6)
    (hS : RSt wr r D ⟨q, e1⟩) (hg : wr.heap[g6]? = some (.cells (tCells ver (.slice A1 N1 c1) (.slice A2 N2 c2) lock) 35)) (hz : wr.heap[w.heap.size]? = some (.cells (tCells 0 (.slice none 0 0) (.slice none 0 0) 0) 35)) (hb : Below w.heap.size w wr)
    (he1 : decE bs = e1) (hN : decE bs = 0 → decN bs = min n 65536 - q.length ∧ q.length ≤ min n 65536)
    (hK : decE bs = 0 → ∀ w', (∀ k, DecS w r g6 k → k < wr.heap.size → w'.heap[k]? = wr.heap[k]?) → txK.K (fun b => w.heap.size ≤ b) w' (decT bs) [.int .i32 ver, .slice A1 N1 c1, .slice A2 N2 c2, .int .u32 lock]) (Q0 : Exit → Act → World → Prop)
    (hexit : ∀ x192 x193 x194 x195 x196 x197 x198 x199 x200 x201 x202 x203 x204 x205 x206 x207 x208 x209 x210 x211 nz ez cs w', nz = ((if decE bs = 0 then decN bs else 0 : Nat) : Int) → ez = decE bs → w'.heap[w.heap.size]? = some (.cells cs.toArray 35) → cs.length = 4 → (decE bs = 0 → txK.K (fun b => w.heap.size ≤ b) w' (decT bs) cs) → (decE bs ≠ 0 → cs = [.int .i32 0, .slice none 0 0, .slice none 0 0, .int .u32 0]) → Below w.heap.size w w' → Q0 .ret ⟨#[.slice (some ⟨D, o, none⟩) n c, u1, .pointer (some ⟨w.heap.size, 0, none⟩), .int .i64 nz, .int .i64 ez, .pointer (some ⟨r, 0, none⟩), .pointer (some ⟨g6, 0, none⟩), .bool fl, u8, u9, u10, u11, u12, u13, u14, u15, u16, u17, u18, u19, u20, u21, u22, u23, u24, u25, u26, u27, u28, u29, u30, u31, u32, u33, u34, u35, u36, u37, u38, u39, u40, u41, u42, u43, u44, u45, u46, u47, u48, u49, u50, u51, u52, u53, u54, u55, u56, u57, u58, u59, u60, u61, u62, u63, u64, u65, u66, u67, u68, u69, u70, u71, u72, u73, u74, u75, u76, u77, u78, u79, u80, u81, u82, u83, u84, u85, u86, u87, u88, u89, u90, u91, u92, u93, u94, u95, u96, u97, u98, u99, u100, u101, u102, u103, u104, u105, u106, u107, u108, u109, u110, u111, u112, u113, u114, u115, u116, u117, u118, u119, u120, u121, u122, u123, u124, u125, u126, u127, u128, u129, u130, u131, u132, u133, u134, u135, u136, u137, u138, u139, u140, u141, u142, u143, u144, u145, u146, u147, u148, u149, u150, u151, u152, u153, u154, u155, u156, u157, u158, u159, u160, u161, u162, u163, u164, u165, u166, u167, u168, u169, u170, u171, u172, u173, u174, u175, u176, u177, u178, u179, u180, u181, u182, u183, u184, u185, u186, u187, u188, u189, u190, u191, x192, x193, x194, x195, x196, x197, x198, x199, x200, x201, x202, x203, x204, x205, x206, x207, x208, x209, x210, x211], []⟩ w') :
    Code.wp Try.prog decT39 Q0 ⟨#[.slice (some ⟨D, o, none⟩) n c, u1, .pointer (some ⟨w.heap.size, 0, none⟩), .int .i64 0, .int .i64 0, .pointer (some ⟨r, 0, none⟩), .pointer (some ⟨g6, 0, none⟩), .bool fl, u8, u9, u10, u11, u12, u13, u14, u15, u16, u17, u18, u19, u20, u21, u22, u23, u24, u25, u26, u27, u28, u29, u30, u31, u32, u33, u34, u35, u36, u37, u38, u39, u40, u41, u42, u43, u44, u45, u46, u47, u48, u49, u50, u51, u52, u53, u54, u55, u56, u57, u58, u59, u60, u61, u62, u63, u64, u65, u66, u67, u68, u69, u70, u71, u72, u73, u74, u75, u76, u77, u78, u79, u80, u81, u82, u83, u84, u85, u86, u87, u88, u89, u90, u91, u92, u93, u94, u95, u96, u97, u98, u99, u100, u101, u102, u103, u104, u105, u106, u107, u108, u109, u110, u111, u112, u113, u114, u115, u116, u117, u118, u119, u120, u121, u122, u123, u124, u125, u126, u127, u128, u129, u130, u131, u132, u133, u134, u135, u136, u137, u138, u139, u140, u141, u142, u143, u144, u145, u146, u147, u148, u149, u150, u151, u152, u153, u154, u155, u156, u157, u158, u159, u160, u161, u162, u163, u164, u165, u166, u167, u168, u169, u170, u171, u172, u173, u174, u175, u176, u177, u178, u179, u180, u181, u182, u183, u184, u185, u186, u187, u188, u189, u190, u191, u192, u193, u194, u195, u196, u197, u198, u199, u200, u201, u202, u203, u204, u205, u206, u207, u208, u209, u210, u211], []⟩ wr := by
  have HE := Lib.hid hexit
  clear hexit
  obtain ⟨A9, m9, c9, hgr, h9a, h9b, hr9, _, _, _⟩ := id hS
  have hql : q.length = m9 := by have := hr9.1; rwa [nums_length] at this
  have d0 := blk_cell hgr (i := 0) (v := .slice A9 m9 c9) rfl
  have d1 := blk_cell hgr (i := 1) (v := .int .i64 e1) rfl
  have g0 := blk_cell hg (i := 0) (v := .int .i32 ver) rfl
  have g1 := blk_cell hg (i := 1) (v := .slice A1 N1 c1) rfl
  have g2 := blk_cell hg (i := 2) (v := .slice A2 N2 c2) rfl
  have g3 := blk_cell hg (i := 3) (v := .int .u32 lock) rfl
  have hMI := info_tx4 (.int .i32 0) (.slice none 0 0) (.slice none 0 0) (.int .u32 0)
  have hMI2 := info_tx4 (.int .i32 ver) (.slice A1 N1 c1) (.slice A2 N2 c2) (.int .u32 lock)
  have hcm' := hcm
  unfold maxLen at hcm' h9b
  conv => arg 2; whnf
  by_cases he : e1 = 0
  · have he' : (e1 != 0) = false := by rw [he]; rfl
    obtain ⟨hN1, hN2⟩ := hN (he1.trans he)
    obtain ⟨m, hm⟩ : ∃ m, min n 65536 = m := ⟨_, rfl⟩
    have hmi : min (n : Int) 65536 = (m : Int) := by omega
    have hsb : IntKind.i64.wrap ((m : Int) - (m9 : Int)) = ((m - m9 : Nat) : Int) := by rw [IntWalk.i64_in _ (by omega)]; omega
    have HNN : Hid (decN bs = m - m9) := Lib.hid (by omega)
    have HEZ : Hid (decE bs = 0) := Lib.hid (he1.trans he)
    have HK := Lib.hid (hK HEZ.out)
    clear hN hN1 hN2 hm hql he he1 hr9 hK hgr hS
    go_upto_region 41 with fail
    refine wp_region_noPanic ?_
    refine wp_region_held_drew (S := fun wd => wd.cell? ⟨r, 0, none⟩ = some (.slice A9 m9 c9) ∧ wd.cell? ⟨g6, 0, none⟩ = some (.int .i32 ver) ∧ wd.cell? ⟨g6, 1, none⟩ = some (.slice A1 N1 c1) ∧ wd.cell? ⟨g6, 2, none⟩ = some (.slice A2 N2 c2) ∧ wd.cell? ⟨g6, 3, none⟩ = some (.int .u32 lock)) (by kernel_rfl) ⟨d0, g0, g1, g2, g3⟩ (fun hHeld => ?_)
    -- 0: tx.go:235 slot 202 := Op.load 69 t6
    refine wpAnyH_take (i := 0) (oi := ⟨some 202, _, _, _, _, _⟩) (v := ?_) rfl (by kernel_rfl) (by kernel_rfl) (by kernel_rfl) (fun _ _ _ h => h) (Or.inl ⟨by rfl, ?_⟩) (by assumption) ?_
    rotate_left 1
    · intro w hSw; (try dsimp only at hSw); go_simp; try with_reducible rfl
    simp only [Act.put, List.setIfInBounds_toArray, List.set_cons_zero, List.set_cons_succ]
    -- 1: tx.go:235 slot 203 := Op.move t0
    refine wpAnyH_take (i := 1) (oi := ⟨some 203, _, _, _, _, _⟩) (v := ?_) rfl (by kernel_rfl) (by kernel_rfl) (by kernel_rfl) (fun _ _ _ h => h) (Or.inl ⟨by rfl, ?_⟩) (by assumption) ?_
    rotate_left 1
    · intro w hSw; (try dsimp only at hSw); go_simp; try with_reducible rfl
    simp only [Act.put, List.setIfInBounds_toArray, List.set_cons_zero, List.set_cons_succ]
    -- 2: tx.go:235 slot 204 := Op.call { builtin len, args := #[t203], argTypes := #[22] }
    refine wpAnyH_take (i := 2) (oi := ⟨some 204, _, _, _, _, _⟩) (v := ?_) rfl (by kernel_rfl) (by kernel_rfl) (by kernel_rfl) (fun _ _ _ h => h) (Or.inl ⟨by rfl, ?_⟩) (by assumption) ?_
    rotate_left 1
    · intro w hSw; (try dsimp only at hSw); go_simp; try with_reducible rfl
    simp only [Act.put, List.setIfInBounds_toArray, List.set_cons_zero, List.set_cons_succ]
    -- 3: tx.go:235 slot 205 := Op.call { builtin min, args := #[t204, const (65536:i64)], argTypes := #[3, 3] }
    refine wpAnyH_take (i := 3) (oi := ⟨some 205, _, _, _, _, _⟩) (v := ?_) rfl (by kernel_rfl) (by kernel_rfl) (by kernel_rfl) (fun _ _ _ h => h) (Or.inl ⟨by rfl, ?_⟩) (by assumption) ?_
    rotate_left 1
    · intro w hSw; (try dsimp only at hSw); go_simp; try with_reducible rfl
    simp only [Act.put, List.setIfInBounds_toArray, List.set_cons_zero, List.set_cons_succ]
    -- 4: tx.go:235 slot 206 := Op.move t5
    refine wpAnyH_take (i := 4) (oi := ⟨some 206, _, _, _, _, _⟩) (v := ?_) rfl (by kernel_rfl) (by kernel_rfl) (by kernel_rfl) (fun _ _ _ h => h) (Or.inl ⟨by rfl, ?_⟩) (by assumption) ?_
    rotate_left 1
    · intro w hSw; (try dsimp only at hSw); go_simp; try with_reducible rfl
    simp only [Act.put, List.setIfInBounds_toArray, List.set_cons_zero, List.set_cons_succ]
    -- 5: tx.go:235 slot 207 := Op.nilCheck t206
    refine wpAnyH_take (i := 5) (oi := ⟨some 207, _, _, _, _, _⟩) (v := ?_) rfl (by kernel_rfl) (by kernel_rfl) (by kernel_rfl) (fun _ _ _ h => h) (Or.inl ⟨by rfl, ?_⟩) (by assumption) ?_
    rotate_left 1
    · intro w hSw; (try dsimp only at hSw); go_simp; try with_reducible rfl
    simp only [Act.put, List.setIfInBounds_toArray, List.set_cons_zero, List.set_cons_succ]
    -- 6: tx.go:235 slot 208 := Op.fieldAddr 145 t207 0
    refine wpAnyH_take (i := 6) (oi := ⟨some 208, _, _, _, _, _⟩) (v := ?_) rfl (by kernel_rfl) (by kernel_rfl) (by kernel_rfl) (fun _ _ _ h => h) (Or.inl ⟨by rfl, ?_⟩) (by assumption) ?_
    rotate_left 1
    · intro w hSw; (try dsimp only at hSw); go_simp; try with_reducible rfl
    simp only [Act.put, List.setIfInBounds_toArray, List.set_cons_zero, List.set_cons_succ]
    -- 7: tx.go:235 slot 209 := Op.load 22 t208
    refine wpAnyH_take (i := 7) (oi := ⟨some 209, _, _, _, _, _⟩) (v := ?_) rfl (by kernel_rfl) (by kernel_rfl) (by kernel_rfl) (fun _ _ _ h => h) (Or.inl ⟨by rfl, ?_⟩) (by assumption) ?_
    rotate_left 1
    · intro w hSw; (try dsimp only at hSw); go_simp; try with_reducible rfl
    simp only [Act.put, List.setIfInBounds_toArray, List.set_cons_zero, List.set_cons_succ]
    -- 8: tx.go:235 slot 210 := Op.call { builtin len, args := #[t209], argTypes := #[22] }
    refine wpAnyH_take (i := 8) (oi := ⟨some 210, _, _, _, _, _⟩) (v := ?_) rfl (by kernel_rfl) (by kernel_rfl) (by kernel_rfl) (fun _ _ _ h => h) (Or.inl ⟨by rfl, ?_⟩) (by assumption) ?_
    rotate_left 1
    · intro w hSw; (try dsimp only at hSw); go_simp; try with_reducible rfl
    simp only [Act.put, List.setIfInBounds_toArray, List.set_cons_zero, List.set_cons_succ]
    -- 9: tx.go:235 slot 211 := Op.binOp BinOp.sub 3 t205 t210 3
    refine wpAnyH_take (i := 9) (oi := ⟨some 211, _, _, _, _, _⟩) (v := ?_) rfl (by kernel_rfl) (by kernel_rfl) (by kernel_rfl) (fun _ _ _ h => h) (Or.inl ⟨by rfl, ?_⟩) (by assumption) ?_
    rotate_left 1
    · intro w hSw; (try dsimp only at hSw); go_simp; try with_reducible rfl
    simp only [Act.put, List.setIfInBounds_toArray, List.set_cons_zero, List.set_cons_succ]
    -- 10: tx.go:235 slot none := Op.store 69 t2 t202
    refine wpAnyH_ready (rs := [10]) (by kernel_rfl) (by simp) ?_
    refine AllReadyH.cons (o := ⟨none, _, _, _, _, _⟩) rfl (fun K hK => ?_) AllReadyH.nil
    refine step_store_any (by rfl) 35 (.tmp 2) (.tmp 202) (by rfl) w.heap.size (tCells ver (.slice A1 N1 c1) (.slice A2 N2 c2) lock) (by rfl) (by rfl) 35 (tCells 0 (.slice none 0 0) (.slice none 0 0) 0) (show wr.drew.heap[w.heap.size]? = _ from hz) hMI2 rfl (one_tx4 _ _ _ _ _ _ _ _) ?_
    intro w3 hz3 ht3
    refine hK.out _ _ ⟨(ht3.cell (by omega)).trans d0, (ht3.cell (by omega)).trans g0, (ht3.cell (by omega)).trans g1, (ht3.cell (by omega)).trans g2, (ht3.cell (by omega)).trans g3⟩ (fun hHeld' => ?_)
    clear hHeld
    have hHeld := hHeld'
    clear hHeld'
    clear hK K
    try (simp only [Act.put])
    -- 11: tx.go:235 slot 3 := Op.assign t211
    refine wpAnyH_take (i := 11) (oi := ⟨some 3, _, _, _, _, _⟩) (v := ?_) rfl (by kernel_rfl) (by kernel_rfl) (by kernel_rfl) (fun _ _ _ h => h) (Or.inl ⟨by rfl, ?_⟩) (by assumption) ?_
    rotate_left 1
    · intro w hSw; (try dsimp only at hSw); go_simp; try with_reducible rfl
    simp only [Act.put, List.setIfInBounds_toArray, List.set_cons_zero, List.set_cons_succ]
    -- 12: tx.go:235 slot 4 := Op.assign (const (0:i64))
    refine wpAnyH_take (i := 12) (oi := ⟨some 4, _, _, _, _, _⟩) (v := ?_) rfl (by kernel_rfl) (by kernel_rfl) (by kernel_rfl) (fun _ _ _ h => h) (Or.inl ⟨by rfl, ?_⟩) (by assumption) ?_
    rotate_left 1
    · intro w hSw; (try dsimp only at hSw); go_simp; try with_reducible rfl
    simp only [Act.put, List.setIfInBounds_toArray, List.set_cons_zero, List.set_cons_succ]
    refine wpAnyH_done (by kernel_rfl) ?_ _
    refine NoPanic.normal ?_
    have hd : Below wr.heap.size wr wr.drew := Below.drew (Below.refl _ _)
    have hbz : Below w.heap.size w w3 := ht3.below (below_then hb hb.size hd) (Nat.le_refl _)
    have hKK := HK.out w3 (fun k hk hlt => (ht3.block k hk.2.2.2).trans (hd.block k hlt))
    clear hHeld hd
    go_wp2
    exact HE.out _ _ _ _ _ _ _ _ _ _ _ _ _ _ _ _ _ _ _ _ _ _ _ w3 (by rw [if_pos HEZ.out, HNN.out]) HEZ.out.symm hz3 rfl (fun _ => hKK) (fun h => absurd HEZ.out h) hbz
  · have he' : (e1 != 0) = true := by rw [bne_iff_ne]; exact he
    have HEZ : Hid (decE bs = e1) := Lib.hid he1
    have HEN := Lib.hid he
    clear hN hql he he1 hr9 hK hgr hS d0 g0 g1 g2 g3
    go_upto_region 40 with fail
    refine wp_region_noPanic ?_
    refine wp_region_held_drew (S := fun wd => wd.cell? ⟨r, 1, none⟩ = some (.int .i64 e1)) (by kernel_rfl) d1 (fun hHeld => ?_)
    -- 0: tx.go:233 slot 197 := Op.build 69 #[]
    refine wpAnyH_take (i := 0) (oi := ⟨some 197, _, _, _, _, _⟩) (v := ?_) rfl (by kernel_rfl) (by kernel_rfl) (by kernel_rfl) (fun _ _ _ h => h) (Or.inl ⟨by rfl, ?_⟩) (by assumption) ?_
    rotate_left 1
    · intro w hSw; (try dsimp only at hSw); go_simp; try with_reducible rfl
    simp only [Act.put, List.setIfInBounds_toArray, List.set_cons_zero, List.set_cons_succ]
    -- 1: tx.go:233 slot 198 := Op.move t5
    refine wpAnyH_take (i := 1) (oi := ⟨some 198, _, _, _, _, _⟩) (v := ?_) rfl (by kernel_rfl) (by kernel_rfl) (by kernel_rfl) (fun _ _ _ h => h) (Or.inl ⟨by rfl, ?_⟩) (by assumption) ?_
    rotate_left 1
    · intro w hSw; (try dsimp only at hSw); go_simp; try with_reducible rfl
    simp only [Act.put, List.setIfInBounds_toArray, List.set_cons_zero, List.set_cons_succ]
    -- 2: tx.go:233 slot 199 := Op.nilCheck t198
    refine wpAnyH_take (i := 2) (oi := ⟨some 199, _, _, _, _, _⟩) (v := ?_) rfl (by kernel_rfl) (by kernel_rfl) (by kernel_rfl) (fun _ _ _ h => h) (Or.inl ⟨by rfl, ?_⟩) (by assumption) ?_
    rotate_left 1
    · intro w hSw; (try dsimp only at hSw); go_simp; try with_reducible rfl
    simp only [Act.put, List.setIfInBounds_toArray, List.set_cons_zero, List.set_cons_succ]
    -- 3: tx.go:233 slot 200 := Op.fieldAddr 145 t199 1
    refine wpAnyH_take (i := 3) (oi := ⟨some 200, _, _, _, _, _⟩) (v := ?_) rfl (by kernel_rfl) (by kernel_rfl) (by kernel_rfl) (fun _ _ _ h => h) (Or.inl ⟨by rfl, ?_⟩) (by assumption) ?_
    rotate_left 1
    · intro w hSw; (try dsimp only at hSw); go_simp; try with_reducible rfl
    simp only [Act.put, List.setIfInBounds_toArray, List.set_cons_zero, List.set_cons_succ]
    -- 4: tx.go:233 slot 201 := Op.load 47 t200
    refine wpAnyH_take (i := 4) (oi := ⟨some 201, _, _, _, _, _⟩) (v := ?_) rfl (by kernel_rfl) (by kernel_rfl) (by kernel_rfl) (fun _ _ _ h => h) (Or.inl ⟨by rfl, ?_⟩) (by assumption) ?_
    rotate_left 1
    · intro w hSw; (try dsimp only at hSw); go_simp; try with_reducible rfl
    simp only [Act.put, List.setIfInBounds_toArray, List.set_cons_zero, List.set_cons_succ]
    -- 5: tx.go:233 slot none := Op.store 69 t2 t197
    refine wpAnyH_ready (rs := [5]) (by kernel_rfl) (by simp) ?_
    refine AllReadyH.cons (o := ⟨none, _, _, _, _, _⟩) rfl (fun K hK => ?_) AllReadyH.nil
    refine step_store_any (by rfl) 35 (.tmp 2) (.tmp 197) (by rfl) w.heap.size (tCells 0 (.slice none 0 0) (.slice none 0 0) 0) (by rfl) (by rfl) 35 (tCells 0 (.slice none 0 0) (.slice none 0 0) 0) (show wr.drew.heap[w.heap.size]? = _ from hz) hMI rfl (one_tx4 _ _ _ _ _ _ _ _) ?_
    intro w3 hz3 ht3
    refine hK.out _ _ ((ht3.cell (by omega)).trans d1) (fun hHeld' => ?_)
    clear hHeld
    have hHeld := hHeld'
    clear hHeld'
    clear hK K
    try (simp only [Act.put])
    -- 6: tx.go:233 slot 3 := Op.assign (const (0:i64))
    refine wpAnyH_take (i := 6) (oi := ⟨some 3, _, _, _, _, _⟩) (v := ?_) rfl (by kernel_rfl) (by kernel_rfl) (by kernel_rfl) (fun _ _ _ h => h) (Or.inl ⟨by rfl, ?_⟩) (by assumption) ?_
    rotate_left 1
    · intro w hSw; (try dsimp only at hSw); go_simp; try with_reducible rfl
    simp only [Act.put, List.setIfInBounds_toArray, List.set_cons_zero, List.set_cons_succ]
    -- 7: tx.go:233 slot 4 := Op.assign t201
    refine wpAnyH_take (i := 7) (oi := ⟨some 4, _, _, _, _, _⟩) (v := ?_) rfl (by kernel_rfl) (by kernel_rfl) (by kernel_rfl) (fun _ _ _ h => h) (Or.inl ⟨by rfl, ?_⟩) (by assumption) ?_
    rotate_left 1
    · intro w hSw; (try dsimp only at hSw); go_simp; try with_reducible rfl
    simp only [Act.put, List.setIfInBounds_toArray, List.set_cons_zero, List.set_cons_succ]
    refine wpAnyH_done (by kernel_rfl) ?_ _
    refine NoPanic.normal ?_
    have hd : Below wr.heap.size wr wr.drew := Below.drew (Below.refl _ _)
    have hbz : Below w.heap.size w w3 := ht3.below (below_then hb hb.size hd) (Nat.le_refl _)
    clear hHeld hd
    go_wp2
    exact HE.out _ _ _ _ _ _ _ _ _ _ _ _ _ _ _ _ _ _ _ _ _ _ _ w3 (by rw [if_neg (fun h => HEN.out (HEZ.out.symm.trans h))]; rfl) HEZ.out.symm hz3 rfl (fun h => absurd (HEZ.out.symm.trans h) HEN.out) (fun _ => rfl) hbz
end Go.Proofs.Ytjlkakggmfmfiaa
