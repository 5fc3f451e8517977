/- tx.Decode: behind the loops. -/
import Derived.Test.YtjlkakggmfmfiaaDecEnd
import Derived.Test.YtjlkakggmfmfiaaTxLaw
set_option maxRecDepth 100000
set_option linter.unusedVariables false
namespace Go.Proofs.Ytjlkakggmfmfiaa
open Go Go.RowKit
noncomputable def decT34 : Code := ((Try.f18.body.bind (findT 34)).getD .skip)
set_option maxHeartbeats 8000000 in
theorem dec_tail {u1 u8 u9 u10 u11 u12 u13 u14 u15 u16 u17 u18 u19 u20 u21 u22 u23 u24 u25 u26 u27 u28 u29 u30 u31 u32 u33 u34 u35 u36 u37 u38 u39 u40 u41 u42 u43 u44 u45 u46 u47 u48 u49 u50 u51 u52 u53 u54 u55 u56 u57 u58 u59 u60 u61 u62 u63 u64 u65 u66 u67 u68 u69 u70 u71 u72 u73 u74 u75 u76 u77 u78 u79 u80 u81 u82 u83 u84 u85 u86 u87 u88 u89 u90 u91 u92 u93 u94 u95 u96 u97 u98 u99 u100 u101 u102 u103 u104 u105 u106 u107 u108 u109 u110 u111 u112 u113 u114 u115 u116 u117 u118 u119 u120 u121 u122 u123 u124 u125 u126 u127 u128 u129 u130 u131 u132 u133 u134 u135 u136 u137 u138 u139 u140 u141 u142 u143 u144 u145 u146 u147 u148 u149 u150 u151 u152 u153 u154 u155 u156 u157 u158 u159 u160 u161 u162 u163 u164 u165 u166 u167 u168 u169 u170 u171 u172 u173 u174 u175 u176 u177 u178 u179 u180 u181 u182 u183 u184 u185 u186 u187 u188 u189 u190 u191 u192 u193 u194 u195 u196 u197 u198 u199 u200 u201 u202 u203 u204 u205 u206 u207 u208 u209 u210 u211 : Value} (w wr : World) (D o n c r g6 : Nat) (bs : List Int) (fl : Bool) (ver : Int) (A1 : Option Addr) (N1 c1 : Nat) (A2 : Option Addr) (N2 c2 : Nat) (p : PSt) (hcm : c ≤ maxLen) (hnc : n ≤ c) (hl : bs.length = n) (hbs : Bytes bs)
    (hwr : w.heap.size < r) (hw6 : w.heap.size < g6) (hr6 : r ≠ g6) (hDw : D < w.heap.size)
    (hS : RSt wr r D p) (hg : wr.heap[g6]? = some (.cells (tCells ver (.slice A1 N1 c1) (.slice A2 N2 c2) 0) 35)) (hz : wr.heap[w.heap.size]? = some (.cells (tCells 0 (.slice none 0 0) (.slice none 0 0) 0) 35)) (hb : Below w.heap.size w wr)
    (hp : (decWs bs).2 = p) (hfl : decW bs = fl) (hver : IntKind.i32.wrap (ofLE ((⟨bs.take 65536, 0⟩ : PSt).takeB 4)) = ver)
    (hI : inK.C (DecS w r g6) wr A1 N1 (decWs bs).1) (hO : outK.C (DecS w r g6) wr A2 N2 (decO bs).1) (h1 : N1 ≤ c1) (h2 : c1 ≤ maxLen) (h3 : N2 ≤ c2) (h4 : c2 ≤ maxLen) (Q0 : Exit → Act → World → Prop)
    (hexit : ∀ x147 x148 x149 x150 x151 x152 x153 x154 x155 x156 x157 x158 x159 x160 x161 x162 x163 x164 x165 x166 x167 x168 x169 x170 x171 x172 x173 x174 x175 x176 x177 x178 x179 x180 x181 x182 x183 x184 x185 x186 x187 x188 x189 x190 x191 x192 x193 x194 x195 x196 x197 x198 x199 x200 x201 x202 x203 x204 x205 x206 x207 x208 x209 x210 x211 nz ez cs w', nz = ((if decE bs = 0 then decN bs else 0 : Nat) : Int) → ez = decE bs → w'.heap[w.heap.size]? = some (.cells cs.toArray 35) → cs.length = 4 → (decE bs = 0 → txK.K (fun b => w.heap.size ≤ b) w' (decT bs) cs) → (decE bs ≠ 0 → cs = [.int .i32 0, .slice none 0 0, .slice none 0 0, .int .u32 0]) → Below w.heap.size w w' → Q0 .ret ⟨#[.slice (some ⟨D, o, none⟩) n c, u1, .pointer (some ⟨w.heap.size, 0, none⟩), .int .i64 nz, .int .i64 ez, .pointer (some ⟨r, 0, none⟩), .pointer (some ⟨g6, 0, none⟩), .bool fl, u8, u9, u10, u11, u12, u13, u14, u15, u16, u17, u18, u19, u20, u21, u22, u23, u24, u25, u26, u27, u28, u29, u30, u31, u32, u33, u34, u35, u36, u37, u38, u39, u40, u41, u42, u43, u44, u45, u46, u47, u48, u49, u50, u51, u52, u53, u54, u55, u56, u57, u58, u59, u60, u61, u62, u63, u64, u65, u66, u67, u68, u69, u70, u71, u72, u73, u74, u75, u76, u77, u78, u79, u80, u81, u82, u83, u84, u85, u86, u87, u88, u89, u90, u91, u92, u93, u94, u95, u96, u97, u98, u99, u100, u101, u102, u103, u104, u105, u106, u107, u108, u109, u110, u111, u112, u113, u114, u115, u116, u117, u118, u119, u120, u121, u122, u123, u124, u125, u126, u127, u128, u129, u130, u131, u132, u133, u134, u135, u136, u137, u138, u139, u140, u141, u142, u143, u144, u145, u146, x147, x148, x149, x150, x151, x152, x153, x154, x155, x156, x157, x158, x159, x160, x161, x162, x163, x164, x165, x166, x167, x168, x169, x170, x171, x172, x173, x174, x175, x176, x177, x178, x179, x180, x181, x182, x183, x184, x185, x186, x187, x188, x189, x190, x191, x192, x193, x194, x195, x196, x197, x198, x199, x200, x201, x202, x203, x204, x205, x206, x207, x208, x209, x210, x211], []⟩ w') :
    Code.wp Try.prog decT34 Q0 ⟨#[.slice (some ⟨D, o, none⟩) n c, u1, .pointer (some ⟨w.heap.size, 0, none⟩), .int .i64 0, .int .i64 0, .pointer (some ⟨r, 0, none⟩), .pointer (some ⟨g6, 0, none⟩), .bool fl, u8, u9, u10, u11, u12, u13, u14, u15, u16, u17, u18, u19, u20, u21, u22, u23, u24, u25, u26, u27, u28, u29, u30, u31, u32, u33, u34, u35, u36, u37, u38, u39, u40, u41, u42, u43, u44, u45, u46, u47, u48, u49, u50, u51, u52, u53, u54, u55, u56, u57, u58, u59, u60, u61, u62, u63, u64, u65, u66, u67, u68, u69, u70, u71, u72, u73, u74, u75, u76, u77, u78, u79, u80, u81, u82, u83, u84, u85, u86, u87, u88, u89, u90, u91, u92, u93, u94, u95, u96, u97, u98, u99, u100, u101, u102, u103, u104, u105, u106, u107, u108, u109, u110, u111, u112, u113, u114, u115, u116, u117, u118, u119, u120, u121, u122, u123, u124, u125, u126, u127, u128, u129, u130, u131, u132, u133, u134, u135, u136, u137, u138, u139, u140, u141, u142, u143, u144, u145, u146, u147, u148, u149, u150, u151, u152, u153, u154, u155, u156, u157, u158, u159, u160, u161, u162, u163, u164, u165, u166, u167, u168, u169, u170, u171, u172, u173, u174, u175, u176, u177, u178, u179, u180, u181, u182, u183, u184, u185, u186, u187, u188, u189, u190, u191, u192, u193, u194, u195, u196, u197, u198, u199, u200, u201, u202, u203, u204, u205, u206, u207, u208, u209, u210, u211], []⟩ wr := by
  have HE := Lib.hid hexit
  clear hexit
  have HBS := Lib.hid hbs
  have hby := hS.bytes
  have hlk := le4_takeB hby
  obtain ⟨lock, hlock⟩ : ∃ lock, ofLE (p.takeB 4) = lock := ⟨_, rfl⟩
  have hwl : IntKind.u32.wrap (ofLE (p.takeB 4)) = ofLE (p.takeB 4) := by rw [IntKind.wrap_u32]; omega
  rw [hlock] at hlk
  obtain ⟨q, hq⟩ : ∃ q, p.take 4 = q := ⟨_, rfl⟩
  have hq9 : decP9 bs = q := by unfold decP9; rw [hp, hq]
  have hE1 : decE1 bs = if q.e = 8 ∧ 65536 < bs.length then 2 else q.e := by unfold decE1; rw [hq9]
  have hE : decE bs = if decE1 bs = 0 ∧ (N1 = 0 ∨ N2 = 0 ∨ (fl = true ∧ (decT bs).hasWit = false)) then 2 else decE1 bs := by unfold decE; rw [hI.len, hO.len, hfl]
  have hN : decN bs = min n 65536 - q.bs.length := by unfold decN; rw [hq9, hl]
  have hT : decT bs = ⟨ver, (decWs bs).1, (decO bs).1, lock⟩ := by unfold decT; rw [hp, hver, hlock]
  have HE1 := Lib.hid hE1
  have HEE := Lib.hid hE
  have HN := Lib.hid hN
  have HT := Lib.hid hT
  have HL := Lib.hid hl
  have hvr : -2147483648 ≤ ver ∧ ver ≤ 2147483647 := by rw [← hver]; exact wrap_i32_range _
  clear hE1 hE hN hT hq9 hp hfl hver hl
  have hcm' := hcm
  unfold maxLen at hcm'
  have h2' := h2
  have h4' := h4
  unfold maxLen at h2' h4'
  conv => arg 2; whnf
  go_wp2_with fail
  refine (rlit_calls _ r D p 4 (by decide) hS _ rfl).mono ?_
  rintro e w1 ⟨rfl, hS1, hG1⟩
  have hg1 := heap_grown hG1 hg (fun e => hr6 (Option.some.inj e).symm)
  have hz1 := heap_grown hG1 hz (fun e => by have := Option.some.inj e; omega)
  have hb1 := hb.grown hG1 hb.size (fun k e => by cases e; omega)
  have hI1 := hI.move (w1 := w1) (fun k hk hlt => hG1.block k hlt (fun e => hk.2.1 (Option.some.inj e)))
  have hO1 := hO.move (w1 := w1) (fun k hk hlt => hG1.block k hlt (fun e => hk.2.1 (Option.some.inj e)))
  have cv1 := blk_cell hg1 (i := 3) (v := .int .u32 0) rfl
  have fv1 := blk_frozen hg1 3
  rw [hq] at hS1
  clear hS hg hz hb hI hO hG1 hq
  go_upto_region 35 with fail
  have hTs := turned_setCell w1 g6 3 (.int .u32 lock)
  have hS2 := hS1.keep (hTs.block r hr6) (hTs.block D (by omega))
  have hg2 := blk_set hg1 3 (.int .u32 lock)
  have hz2 := (hTs.block w.heap.size (by omega)).trans hz1
  have hb2 := hTs.below hb1 (by omega)
  have hI2 := hI1.move (w1 := w1.setCell ⟨g6, 3, none⟩ (.int .u32 lock)) (fun k hk _ => hTs.block k hk.2.2.1)
  have hO2 := hO1.move (w1 := w1.setCell ⟨g6, 3, none⟩ (.int .u32 lock)) (fun k hk _ => hTs.block k hk.2.2.1)
  refine wp_gen (q := fun wi => RSt wi r D q ∧ wi.heap[g6]? = some (.cells (tCells ver (.slice A1 N1 c1) (.slice A2 N2 c2) lock) 35) ∧ wi.heap[w.heap.size]? = some (.cells (tCells 0 (.slice none 0 0) (.slice none 0 0) 0) 35) ∧ Below w.heap.size w wi ∧ inK.C (DecS w r g6) wi A1 N1 (decWs bs).1 ∧ outK.C (DecS w r g6) wi A2 N2 (decO bs).1) ⟨hS2, hg2, hz2, hb2, hI2, hO2⟩ (fun w2 hw => ?_)
  clear hS2 hg2 hz2 hb2 hI2 hO2 hTs hS1 hg1 hz1 hb1 hI1 hO1 cv1 fv1 hwl hlock
  obtain ⟨hS2, hg2, hz2, hb2, hI2, hO2⟩ := hw
  obtain ⟨A9, m9, c9, hgr, h9a, h9b, hr9, _, _, _⟩ := id hS2
  have hql : q.bs.length = m9 := by have := hr9.1; rwa [nums_length] at this
  have d0 := blk_cell hgr (i := 0) (v := .slice A9 m9 c9) rfl
  have d1 := blk_cell hgr (i := 1) (v := .int .i64 q.e) rfl
  have f1 := blk_frozen hgr 1
  have g0 := blk_cell hg2 (i := 0) (v := .int .i32 ver) rfl
  have g1 := blk_cell hg2 (i := 1) (v := .slice A1 N1 c1) rfl
  have g2 := blk_cell hg2 (i := 2) (v := .slice A2 N2 c2) rfl
  have g3 := blk_cell hg2 (i := 3) (v := .int .u32 lock) rfl
  have ht1 := turned_setCell w2 r 1 (.int .i64 2)
  have hSb : RSt (w2.setCell ⟨r, 1, none⟩ (.int .i64 2)) r D ⟨q.bs, 2⟩ := by
    obtain ⟨A, n', c', hg', h1', h2', h3', h4', h5', h6'⟩ := hS2
    exact ⟨A, n', c', blk_set hg' 1 (.int .i64 2), h1', h2', h3'.keepD h5' (ht1.block D h6'), h4', h5', h6'⟩
  have HSB := Lib.hid hSb
  have HQL := Lib.hid hql
  clear hgr hr9 hql hSb
  unfold maxLen at h9b
  have hnd : q.bs.length ≤ m9 := by rw [HQL.out]; exact Nat.le_refl _
  have htb := ht1.below hb2 (by omega)
  have htg := (ht1.block g6 (fun e => hr6 e.symm)).trans hg2
  have htz := (ht1.block w.heap.size (by omega)).trans hz2
  by_cases hA : q.e = 8 ∧ 65536 < n
  · have hb1 : (q.e == 8) = true := by rw [hA.1]; rfl
    have hb2' : (65536 : Int) < (n : Int) := by omega
    have hx1 : decE1 bs = 2 := by rw [HE1.out, if_pos ⟨hA.1, by rw [HL.out]; exact hA.2⟩]
    have HEZ : Hid (decE bs = 2) := Lib.hid (by rw [HEE.out, hx1, if_neg (fun h => by cases h.1)])
    have hq8 := hA.1
    rw [hq8] at d1
    clear hA hx1 hb1
    go_upto_if 188 with fail
    go_cut [7] from 189 to 191 (fun v7 wd => v7 = .bool fl ∧ wd = w2.setCell ⟨r, 1, none⟩ (.int .i64 2))
    case first =>
      go_wp2
      go_meet
      case rel => exact ⟨rfl, rfl⟩
    case rest =>
      obtain ⟨rfl, rfl⟩ := hcut
      rename_i Kx hKx
      refine hKx _ _ ?_
      refine dec_end w _ D o n c r g6 bs fl ver lock A1 N1 c1 A2 N2 c2 q.bs 2 hcm hnc hwr hw6 hr6 HSB.out htg htz htb HEZ.out (fun h => absurd h (by rw [HEZ.out]; decide)) (fun h => absurd h (by rw [HEZ.out]; decide)) _ ?_
      intro z0 z1 z2 z3 z4 z5 z6 z7 z8 z9 z10 z11 z12 z13 z14 z15 z16 z17 z18 z19 nz ez cs w' q1 q2 q3 q4 q5 q6 q7
      exact HE.out _ _ _ _ _ _ _ _ _ _ _ _ _ _ _ _ _ _ _ _ _ _ _ _ _ _ _ _ _ _ _ _ _ _ _ _ _ _ _ _ _ _ _ _ _ _ _ _ _ _ _ _ _ _ _ _ _ _ _ _ _ _ _ _ _ nz ez cs w' q1 q2 q3 q4 q5 q6 q7
  · have HX1 : Hid (decE1 bs = q.e) := Lib.hid (by rw [HE1.out, if_neg (fun h => hA ⟨h.1, by rw [← HL.out]; exact h.2⟩)])
    have hA' : ¬ (q.e = 8 ∧ (65536 : Int) < (n : Int)) := fun h => hA ⟨h.1, by omega⟩
    have HA := Lib.hid hA'
    clear hA hA'
    by_cases hq8 : q.e = 8
    · have hn' : ¬ (65536 : Int) < (n : Int) := fun h => HA.out ⟨hq8, h⟩
      have HEZ : Hid (decE bs = 8) := Lib.hid (by rw [HEE.out, HX1.out, if_neg (fun h => by omega), hq8])
      rw [hq8] at d1
      have hSq : RSt w2 r D ⟨q.bs, 8⟩ := by rw [← hq8]; exact hS2
      go_upto_if 188 with fail
      go_cut [7] from 189 to 191 (fun v7 wd => v7 = .bool fl ∧ wd = w2)
      case first =>
        go_wp2
        go_meet
        case rel => exact ⟨rfl, rfl⟩
      case rest =>
        obtain ⟨rfl, rfl⟩ := hcut
        rename_i Kx hKx
        refine hKx _ _ ?_
        refine dec_end w _ D o n c r g6 bs fl ver lock A1 N1 c1 A2 N2 c2 q.bs 8 hcm hnc hwr hw6 hr6 hSq hg2 hz2 hb2 HEZ.out (fun h => absurd h (by rw [HEZ.out]; decide)) (fun h => absurd h (by rw [HEZ.out]; decide)) _ ?_
        intro z0 z1 z2 z3 z4 z5 z6 z7 z8 z9 z10 z11 z12 z13 z14 z15 z16 z17 z18 z19 nz ez cs w' q1 q2 q3 q4 q5 q6 q7
        exact HE.out _ _ _ _ _ _ _ _ _ _ _ _ _ _ _ _ _ _ _ _ _ _ _ _ _ _ _ _ _ _ _ _ _ _ _ _ _ _ _ _ _ _ _ _ _ _ _ _ _ _ _ _ _ _ _ _ _ _ _ _ _ _ _ _ _ nz ez cs w' q1 q2 q3 q4 q5 q6 q7
    · have hq8' : (q.e == 8) = false := by rw [beq_eq_false_iff_ne]; exact hq8
      by_cases hq0 : q.e = 0
      · have hq0' : (q.e == 0) = true := by rw [hq0]; rfl
        have hSq : RSt w2 r D ⟨q.bs, 0⟩ := by rw [← hq0]; exact hS2
        have HX0 : Hid (decE1 bs = 0) := Lib.hid (HX1.out.trans hq0)
        have HQ0 := Lib.hid hq0
        rw [hq0] at d1
        clear hq0 hq0' hq8 hq8'
        by_cases hn1 : N1 = 0
        · have HEZ : Hid (decE bs = 2) := Lib.hid (by rw [HEE.out, if_pos ⟨HX0.out, .inl hn1⟩])
          have hn1' : ((N1 : Int) == 0) = true := by rw [hn1]; rfl
          go_upto_if 188 with fail
          go_cut [7] from 189 to 191 (fun v7 wd => v7 = .bool fl ∧ wd = w2.setCell ⟨r, 1, none⟩ (.int .i64 2))
          case first =>
            go_wp2
            go_meet
            case rel => exact ⟨rfl, rfl⟩
          case rest =>
            obtain ⟨rfl, rfl⟩ := hcut
            rename_i Kx hKx
            refine hKx _ _ ?_
            refine dec_end w _ D o n c r g6 bs fl ver lock A1 N1 c1 A2 N2 c2 q.bs 2 hcm hnc hwr hw6 hr6 HSB.out htg htz htb HEZ.out (fun h => absurd h (by rw [HEZ.out]; decide)) (fun h => absurd h (by rw [HEZ.out]; decide)) _ ?_
            intro z0 z1 z2 z3 z4 z5 z6 z7 z8 z9 z10 z11 z12 z13 z14 z15 z16 z17 z18 z19 nz ez cs w' q1 q2 q3 q4 q5 q6 q7
            exact HE.out _ _ _ _ _ _ _ _ _ _ _ _ _ _ _ _ _ _ _ _ _ _ _ _ _ _ _ _ _ _ _ _ _ _ _ _ _ _ _ _ _ _ _ _ _ _ _ _ _ _ _ _ _ _ _ _ _ _ _ _ _ _ _ _ _ nz ez cs w' q1 q2 q3 q4 q5 q6 q7
        · have hn1' : ((N1 : Int) == 0) = false := by rw [beq_eq_false_iff_ne]; omega
          by_cases hn2 : N2 = 0
          · have HEZ : Hid (decE bs = 2) := Lib.hid (by rw [HEE.out, if_pos ⟨HX0.out, .inr (.inl hn2)⟩])
            have hn2' : ((N2 : Int) == 0) = true := by rw [hn2]; rfl
            go_upto_if 188 with fail
            go_cut [7] from 189 to 191 (fun v7 wd => v7 = .bool fl ∧ wd = w2.setCell ⟨r, 1, none⟩ (.int .i64 2))
            case first =>
              go_wp2
              go_meet
              case rel => exact ⟨rfl, rfl⟩
            case rest =>
              obtain ⟨rfl, rfl⟩ := hcut
              rename_i Kx hKx
              refine hKx _ _ ?_
              refine dec_end w _ D o n c r g6 bs fl ver lock A1 N1 c1 A2 N2 c2 q.bs 2 hcm hnc hwr hw6 hr6 HSB.out htg htz htb HEZ.out (fun h => absurd h (by rw [HEZ.out]; decide)) (fun h => absurd h (by rw [HEZ.out]; decide)) _ ?_
              intro z0 z1 z2 z3 z4 z5 z6 z7 z8 z9 z10 z11 z12 z13 z14 z15 z16 z17 z18 z19 nz ez cs w' q1 q2 q3 q4 q5 q6 q7
              exact HE.out _ _ _ _ _ _ _ _ _ _ _ _ _ _ _ _ _ _ _ _ _ _ _ _ _ _ _ _ _ _ _ _ _ _ _ _ _ _ _ _ _ _ _ _ _ _ _ _ _ _ _ _ _ _ _ _ _ _ _ _ _ _ _ _ _ nz ez cs w' q1 q2 q3 q4 q5 q6 q7
          · have hn2' : ((N2 : Int) == 0) = false := by rw [beq_eq_false_iff_ne]; omega
            have HN1 := Lib.hid hn1
            have HN2 := Lib.hid hn2
            clear hn1 hn2
            have hTK : txK.K (DecS w r g6) w2 (decT bs) [.int .i32 ver, .slice A1 N1 c1, .slice A2 N2 c2, .int .u32 lock] := by
              rw [HT.out]
              exact ⟨A1, N1, c1, A2, N2, c2, rfl, hvr, hlk, h1, h2, h3, h4, hI2, hO2⟩
            have hKK : ∀ w', (∀ k, DecS w r g6 k → k < w2.heap.size → w'.heap[k]? = w2.heap[k]?) → txK.K (fun b => w.heap.size ≤ b) w' (decT bs) [.int .i32 ver, .slice A1 N1 c1, .slice A2 N2 c2, .int .u32 lock] := fun w' hm => txK.mono (fun k hk => hk.1) (txK.move hm hTK)
            have HKK := Lib.hid hKK
            have HTK := Lib.hid hTK
            clear hKK hTK hvr hI2 hO2
            have hND : Hid (decE bs = 0 → decN bs = min n 65536 - q.bs.length ∧ q.bs.length ≤ min n 65536) := Lib.hid (fun h => by
              have h5 := (dec_read HBS.out h).2.2.2.2.1
              have h6 : 4 ≤ (encF (decT bs)).length := by
                unfold encF layF
                simp only [List.length_append, leF_length]
                omega
              have h7 := HN.out
              exact ⟨h7, by omega⟩)
            cases fl with
            | false =>
              have HEZ : Hid (decE bs = 0) := Lib.hid (by rw [HEE.out, if_neg, HX0.out]; rintro ⟨_, h | h | h⟩; exact HN1.out h; exact HN2.out h; cases h.1)
              go_upto_if 188 with fail
              go_cut [7] from 189 to 191 (fun v7 wd => v7 = .bool false ∧ wd = w2)
              case first =>
                go_wp2
                go_meet
                case rel => exact ⟨rfl, rfl⟩
              case rest =>
                obtain ⟨rfl, rfl⟩ := hcut
                rename_i Kx hKx
                refine hKx _ _ ?_
                refine dec_end w _ D o n c r g6 bs false ver lock A1 N1 c1 A2 N2 c2 q.bs 0 hcm hnc hwr hw6 hr6 hSq hg2 hz2 hb2 HEZ.out hND.out (fun _ => HKK.out) _ ?_
                intro z0 z1 z2 z3 z4 z5 z6 z7 z8 z9 z10 z11 z12 z13 z14 z15 z16 z17 z18 z19 nz ez cs w' q1 q2 q3 q4 q5 q6 q7
                exact HE.out _ _ _ _ _ _ _ _ _ _ _ _ _ _ _ _ _ _ _ _ _ _ _ _ _ _ _ _ _ _ _ _ _ _ _ _ _ _ _ _ _ _ _ _ _ _ _ _ _ _ _ _ _ _ _ _ _ _ _ _ _ _ _ _ _ nz ez cs w' q1 q2 q3 q4 q5 q6 q7
            | true =>
              cases hw : (decT bs).hasWit with
              | true =>
                have HEZ : Hid (decE bs = 0) := Lib.hid (by rw [HEE.out, if_neg, HX0.out]; rintro ⟨_, h | h | h⟩; exact HN1.out h; exact HN2.out h; rw [hw] at h; cases h.2)
                have HW := Lib.hid hw
                clear hw
                go_wp2_with fail
                refine (wit_calls _ _ _ _ HTK.out).mono ?_
                rintro e w3 ⟨rfl, hb3⟩
                rw [HW.out]
                have hS3 := hSq.below hb3
                have hg3 := heap_below hb3 hg2
                have hz3 := heap_below hb3 hz2
                have hb3' := below_then hb2 hb2.size hb3
                go_upto_if 188 with fail
                go_cut [7] from 189 to 191 (fun v7 wd => v7 = .bool true ∧ wd = w3)
                case first =>
                  go_wp2
                  go_meet
                  case rel => exact ⟨rfl, rfl⟩
                case rest =>
                  obtain ⟨rfl, rfl⟩ := hcut
                  rename_i Kx hKx
                  refine hKx _ _ ?_
                  refine dec_end w _ D o n c r g6 bs true ver lock A1 N1 c1 A2 N2 c2 q.bs 0 hcm hnc hwr hw6 hr6 hS3 hg3 hz3 hb3' HEZ.out hND.out (fun _ => (fun w' hm => HKK.out w' (fun k hk hlt => (hm k hk (by have := hb3.size; omega)).trans (hb3.block k hlt)))) _ ?_
                  intro z0 z1 z2 z3 z4 z5 z6 z7 z8 z9 z10 z11 z12 z13 z14 z15 z16 z17 z18 z19 nz ez cs w' q1 q2 q3 q4 q5 q6 q7
                  exact HE.out _ _ _ _ _ _ _ _ _ _ _ _ _ _ _ _ _ _ _ _ _ _ _ _ _ _ _ _ _ _ _ _ _ _ _ _ _ _ _ _ _ _ _ _ _ _ _ _ _ _ _ _ _ _ _ _ _ _ _ _ _ _ _ _ _ nz ez cs w' q1 q2 q3 q4 q5 q6 q7
              | false =>
                have HEZ : Hid (decE bs = 2) := Lib.hid (by rw [HEE.out, if_pos ⟨HX0.out, .inr (.inr ⟨rfl, hw⟩)⟩])
                have HW := Lib.hid hw
                clear hw
                go_wp2_with fail
                refine (wit_calls _ _ _ _ HTK.out).mono ?_
                rintro e w3 ⟨rfl, hb3⟩
                rw [HW.out]
                have hS3 := hSq.below hb3
                have hg3 := heap_below hb3 hg2
                have hz3 := heap_below hb3 hz2
                have hb3' := below_then hb2 hb2.size hb3
                have t3 := turned_setCell w3 r 1 (.int .i64 2)
                have hSz : RSt (w3.setCell ⟨r, 1, none⟩ (.int .i64 2)) r D ⟨q.bs, 2⟩ := by
                  obtain ⟨A, n', c', hg', h1', h2', h3', h4', h5', h6'⟩ := hS3
                  exact ⟨A, n', c', blk_set hg' 1 (.int .i64 2), h1', h2', h3'.keepD h5' (t3.block D h6'), h4', h5', h6'⟩
                have d13 := cell_below hb3 d1
                have f13 : w3.frozen? ⟨r, 1, none⟩ = false := by
                  obtain ⟨A, n', c', hg', _⟩ := id hS3
                  exact blk_frozen hg' 1
                have HSZ := Lib.hid hSz
                clear hSz
                go_upto_if 188 with fail
                go_cut [7] from 189 to 191 (fun v7 wd => v7 = .bool true ∧ wd = w3.setCell ⟨r, 1, none⟩ (.int .i64 2))
                case first =>
                  go_wp2
                  go_meet
                  case rel => exact ⟨rfl, rfl⟩
                case rest =>
                  obtain ⟨rfl, rfl⟩ := hcut
                  rename_i Kx hKx
                  refine hKx _ _ ?_
                  refine dec_end w _ D o n c r g6 bs true ver lock A1 N1 c1 A2 N2 c2 q.bs 2 hcm hnc hwr hw6 hr6 HSZ.out ((t3.block g6 (fun e => hr6 e.symm)).trans hg3) ((t3.block w.heap.size (by omega)).trans hz3) (t3.below hb3' (by omega)) HEZ.out (fun h => absurd h (by rw [HEZ.out]; decide)) (fun h => absurd h (by rw [HEZ.out]; decide)) _ ?_
                  intro z0 z1 z2 z3 z4 z5 z6 z7 z8 z9 z10 z11 z12 z13 z14 z15 z16 z17 z18 z19 nz ez cs w' q1 q2 q3 q4 q5 q6 q7
                  exact HE.out _ _ _ _ _ _ _ _ _ _ _ _ _ _ _ _ _ _ _ _ _ _ _ _ _ _ _ _ _ _ _ _ _ _ _ _ _ _ _ _ _ _ _ _ _ _ _ _ _ _ _ _ _ _ _ _ _ _ _ _ _ _ _ _ _ nz ez cs w' q1 q2 q3 q4 q5 q6 q7
      · have hq0' : (q.e == 0) = false := by rw [beq_eq_false_iff_ne]; exact hq0
        have HEZ : Hid (decE bs = q.e) := Lib.hid (by rw [HEE.out, HX1.out, if_neg (fun h => hq0 h.1)])
        have hSq : RSt w2 r D ⟨q.bs, q.e⟩ := hS2
        have HQ0 := Lib.hid hq0
        clear hq0
        go_upto_if 188 with fail
        go_cut [7] from 189 to 191 (fun v7 wd => v7 = .bool fl ∧ wd = w2)
        case first =>
          go_wp2
          go_meet
          case rel => exact ⟨rfl, rfl⟩
        case rest =>
          obtain ⟨rfl, rfl⟩ := hcut
          rename_i Kx hKx
          refine hKx _ _ ?_
          refine dec_end w _ D o n c r g6 bs fl ver lock A1 N1 c1 A2 N2 c2 q.bs q.e hcm hnc hwr hw6 hr6 hSq hg2 hz2 hb2 HEZ.out (fun h => absurd h (by rw [HEZ.out]; exact HQ0.out)) (fun h => absurd h (by rw [HEZ.out]; exact HQ0.out)) _ ?_
          intro z0 z1 z2 z3 z4 z5 z6 z7 z8 z9 z10 z11 z12 z13 z14 z15 z16 z17 z18 z19 nz ez cs w' q1 q2 q3 q4 q5 q6 q7
          exact HE.out _ _ _ _ _ _ _ _ _ _ _ _ _ _ _ _ _ _ _ _ _ _ _ _ _ _ _ _ _ _ _ _ _ _ _ _ _ _ _ _ _ _ _ _ _ _ _ _ _ _ _ _ _ _ _ _ _ _ _ _ _ _ _ _ _ nz ez cs w' q1 q2 q3 q4 q5 q6 q7
end Go.Proofs.Ytjlkakggmfmfiaa
