/- The reference's Decode: behind the loops. -/
import Derived.Test.YtjlkakggmfmfiaaRefDE
import Derived.Test.YtjlkakggmfmfiaaDecTail
set_option maxRecDepth 100000
set_option linter.unusedVariables false
namespace Go.Proofs.Ytjlkakggmfmfiaa
open Go Go.RowKit
noncomputable def rdT47 : Code := ((Try.f20.body.bind (findT 47)).getD .skip)
set_option maxHeartbeats 16000000 in
theorem rd_tail {u1 u7 u9 u10 u11 u12 u13 u14 u15 u16 u17 u18 u19 u20 u21 u22 u23 u24 u25 u26 u27 u28 u29 u30 u31 u32 u33 u34 u35 u36 u37 u38 u39 u40 u41 u42 u43 u44 u45 u46 u47 u48 u49 u50 u51 u52 u53 u54 u55 u56 u57 u58 u59 u60 u61 u62 u63 u64 u65 u66 u67 u68 u69 u70 u71 u72 u73 u74 u75 u76 u77 u78 u79 u80 u81 u82 u83 u84 u85 u86 u87 u88 u89 u90 u91 u92 u93 u94 u95 u96 u97 u98 u99 u100 u101 u102 u103 u104 u105 u106 u107 u108 u109 u110 u111 u112 u113 u114 u115 u116 u117 u118 u119 u120 u121 u122 u123 u124 u125 u126 u127 u128 u129 u130 u131 u132 u133 u134 u135 u136 u137 u138 u139 u140 u141 u142 u143 u144 u145 u146 u147 u148 u149 u150 u151 u152 u153 u154 u155 u156 u157 u158 u159 u160 u161 u162 u163 u164 u165 u166 u167 u168 u169 u170 u171 u172 u173 u174 u175 u176 u177 u178 u179 u180 u181 u182 u183 u184 u185 u186 u187 u188 u189 u190 u191 u192 u193 u194 u195 u196 u197 u198 u199 u200 u201 u202 u203 u204 u205 u206 u207 u208 u209 u210 u211 u212 u213 u214 u215 u216 u217 u218 u219 u220 u221 u222 u223 u224 u225 u226 u227 u228 u229 u230 u231 u232 u233 u234 u235 u236 u237 u238 u239 u240 u241 u242 u243 u244 u245 u246 u247 u248 u249 u250 u251 u252 u253 u254 u255 u256 u257 : Value} (w wr : World) (AZ : Option Addr) (n c : Nat) (A : Option Addr) (m cc at_ r5 g6 : Nat) (bs : List Int) (fl : Bool) (ver : Int) (A1 : Option Addr) (N1 c1 : Nat) (A2 : Option Addr) (N2 c2 : Nat) (p : PSt) (hm : m = min n 65536) (hl : bs.length = n) (hncm : n ≤ maxLen) (hbs : Bytes (bs.take 65536))
    (hr : Rd w A m (nums .u8 (bs.take 65536))) (h5' : w.heap.size < r5) (h56 : r5 < g6) (hpb : Bytes p.bs)
    (hS : Sim (bs.take 65536) at_ p) (gP : wr.heap[r5]? = some (.cells (plL A m cc at_ p.e).toArray 82)) (gT : wr.heap[g6]? = some (.cells (tCells ver (.slice A1 N1 c1) (.slice A2 N2 c2) 0) 46)) (hz : wr.heap[w.heap.size]? = some (.cells (tCells 0 (.slice none 0 0) (.slice none 0 0) 0) 46)) (hb : Below w.heap.size w wr) (hwz : w.heap.size ≤ wr.heap.size)
    (xsI : List TIn) (xsO : List TOut) (hp9 : (decP9 bs).e = (p.take 4).e) (hok : (p.take 4).e = 0 → decWs bs = (xsI, p) ∧ (decO bs).1 = xsO) (hfl : decW bs = fl) (hver : IntKind.i32.wrap (ofLE ((⟨bs.take 65536, 0⟩ : PSt).takeB 4)) = ver)
    (hI : inK.C (DecS w r5 g6) wr A1 N1 xsI) (hO : outK.C (DecS w r5 g6) wr A2 N2 xsO) (h1 : N1 ≤ c1) (h2 : c1 ≤ maxLen) (h3 : N2 ≤ c2) (h4 : c2 ≤ maxLen) (Q0 : Exit → Act → World → Prop)
    (hexit : ∀ x7 x208 x209 x210 x211 x212 x213 x214 x215 x216 x217 x218 x219 x220 x221 x222 x223 x224 x225 x226 x227 x228 x229 x230 x231 x232 x233 x234 x235 x236 x237 x238 x239 x240 x241 x242 x243 x244 x245 x246 x247 x248 x249 x250 x251 x252 x253 x254 x255 x256 x257 nz ez cs w', nz = ((if decE bs = 0 then decN bs else 0 : Nat) : Int) → ez = decE bs → w'.heap[w.heap.size]? = some (.cells cs.toArray 46) → cs.length = 4 → (decE bs = 0 → txK.K (fun b => w.heap.size ≤ b) w' (decT bs) cs) → (decE bs ≠ 0 → cs = [.int .i32 0, .slice none 0 0, .slice none 0 0, .int .u32 0]) → Below w.heap.size w w' → Q0 .ret ⟨#[.slice AZ n c, u1, .pointer (some ⟨w.heap.size, 0, none⟩), .int .i64 nz, .int .i64 ez, .pointer (some ⟨r5, 0, none⟩), .pointer (some ⟨g6, 0, none⟩), x7, .bool fl, u9, u10, u11, u12, u13, u14, u15, u16, u17, u18, u19, u20, u21, u22, u23, u24, u25, u26, u27, u28, u29, u30, u31, u32, u33, u34, u35, u36, u37, u38, u39, u40, u41, u42, u43, u44, u45, u46, u47, u48, u49, u50, u51, u52, u53, u54, u55, u56, u57, u58, u59, u60, u61, u62, u63, u64, u65, u66, u67, u68, u69, u70, u71, u72, u73, u74, u75, u76, u77, u78, u79, u80, u81, u82, u83, u84, u85, u86, u87, u88, u89, u90, u91, u92, u93, u94, u95, u96, u97, u98, u99, u100, u101, u102, u103, u104, u105, u106, u107, u108, u109, u110, u111, u112, u113, u114, u115, u116, u117, u118, u119, u120, u121, u122, u123, u124, u125, u126, u127, u128, u129, u130, u131, u132, u133, u134, u135, u136, u137, u138, u139, u140, u141, u142, u143, u144, u145, u146, u147, u148, u149, u150, u151, u152, u153, u154, u155, u156, u157, u158, u159, u160, u161, u162, u163, u164, u165, u166, u167, u168, u169, u170, u171, u172, u173, u174, u175, u176, u177, u178, u179, u180, u181, u182, u183, u184, u185, u186, u187, u188, u189, u190, u191, u192, u193, u194, u195, u196, u197, u198, u199, u200, u201, u202, u203, u204, u205, u206, u207, x208, x209, x210, x211, x212, x213, x214, x215, x216, x217, x218, x219, x220, x221, x222, x223, x224, x225, x226, x227, x228, x229, x230, x231, x232, x233, x234, x235, x236, x237, x238, x239, x240, x241, x242, x243, x244, x245, x246, x247, x248, x249, x250, x251, x252, x253, x254, x255, x256, x257], []⟩ w') :
    Code.wp Try.prog rdT47 Q0 ⟨#[.slice AZ n c, u1, .pointer (some ⟨w.heap.size, 0, none⟩), .int .i64 0, .int .i64 0, .pointer (some ⟨r5, 0, none⟩), .pointer (some ⟨g6, 0, none⟩), u7, .bool fl, u9, u10, u11, u12, u13, u14, u15, u16, u17, u18, u19, u20, u21, u22, u23, u24, u25, u26, u27, u28, u29, u30, u31, u32, u33, u34, u35, u36, u37, u38, u39, u40, u41, u42, u43, u44, u45, u46, u47, u48, u49, u50, u51, u52, u53, u54, u55, u56, u57, u58, u59, u60, u61, u62, u63, u64, u65, u66, u67, u68, u69, u70, u71, u72, u73, u74, u75, u76, u77, u78, u79, u80, u81, u82, u83, u84, u85, u86, u87, u88, u89, u90, u91, u92, u93, u94, u95, u96, u97, u98, u99, u100, u101, u102, u103, u104, u105, u106, u107, u108, u109, u110, u111, u112, u113, u114, u115, u116, u117, u118, u119, u120, u121, u122, u123, u124, u125, u126, u127, u128, u129, u130, u131, u132, u133, u134, u135, u136, u137, u138, u139, u140, u141, u142, u143, u144, u145, u146, u147, u148, u149, u150, u151, u152, u153, u154, u155, u156, u157, u158, u159, u160, u161, u162, u163, u164, u165, u166, u167, u168, u169, u170, u171, u172, u173, u174, u175, u176, u177, u178, u179, u180, u181, u182, u183, u184, u185, u186, u187, u188, u189, u190, u191, u192, u193, u194, u195, u196, u197, u198, u199, u200, u201, u202, u203, u204, u205, u206, u207, u208, u209, u210, u211, u212, u213, u214, u215, u216, u217, u218, u219, u220, u221, u222, u223, u224, u225, u226, u227, u228, u229, u230, u231, u232, u233, u234, u235, u236, u237, u238, u239, u240, u241, u242, u243, u244, u245, u246, u247, u248, u249, u250, u251, u252, u253, u254, u255, u256, u257], []⟩ wr := by
  have HE := Lib.hid hexit
  clear hexit
  have hU := Try.underlying82
  have h5 : w.heap.size ≤ r5 := by omega
  have hm6 : m ≤ 1000000 := by omega
  have hlk := le4_takeB hpb
  obtain ⟨lock, hlock⟩ : ∃ lock, ofLE (p.takeB 4) = lock := ⟨_, rfl⟩
  obtain ⟨q, hq⟩ : ∃ q, p.take 4 = q := ⟨_, rfl⟩
  have hE1 : decE1 bs = if q.e = 8 ∧ 65536 < bs.length then 2 else q.e := by unfold decE1; rw [hp9, hq]
  have hEB : decE1 bs ≠ 0 → decE bs = decE1 bs := fun h => by unfold decE; rw [if_neg (fun h' => h h'.1)]
  have hE : q.e = 0 → decE bs = if decE1 bs = 0 ∧ (N1 = 0 ∨ N2 = 0 ∨ (fl = true ∧ (decT bs).hasWit = false)) then 2 else decE1 bs := fun h => by
    obtain ⟨k1, k2⟩ := hok (by rw [hq]; exact h)
    unfold decE
    rw [k1, k2, hI.len, hO.len, hfl]
  have hN : q.e = 0 → decN bs = min n 65536 - q.bs.length := fun h => by
    obtain ⟨k1, k2⟩ := hok (by rw [hq]; exact h)
    unfold decN decP9
    rw [k1, hq, hl]
  have hT : q.e = 0 → decT bs = ⟨ver, xsI, xsO, lock⟩ := fun h => by
    obtain ⟨k1, k2⟩ := hok (by rw [hq]; exact h)
    unfold decT
    rw [k1, k2, hver, hlock]
  have HEB := Lib.hid hEB
  have HE1 := Lib.hid hE1
  have HEE := Lib.hid hE
  have HN := Lib.hid hN
  have HT := Lib.hid hT
  have HL := Lib.hid hl
  have HM := Lib.hid hm
  have HQ := Lib.hid hq
  have hvr : -2147483648 ≤ ver ∧ ver ≤ 2147483647 := by rw [← hver]; exact wrap_i32_range _
  rw [hlock] at hlk
  have hwl : IntKind.u32.wrap lock = lock := by rw [IntKind.wrap_u32]; omega
  have HLK := Lib.hid hlock
  have hF0 := World.grownBy.refl wr (some r5)
  have hZ0 : Hid True := Lib.hid trivial
  clear hE1 hE hEB hN hT hp9 hok hfl hver hl hm hq hlock
  unfold maxLen at hncm
  have h2' := h2
  have h4' := h4
  unfold maxLen at h2' h4'
  conv => arg 2; whnf
  go_wp2_with (first | ((with_reducible refine wpList_at 209 ?_); refine wpList_load_row rfl 82 (.tmp 5) rfl r5 rfl 82 _ _ _ gP hU rfl (info_plA _ _ _ _ _) ?_))
  refine (number_calls _ A m cc (bs.take 65536) hm6 (hr.below hb) hbs at_ p hS 4 (by decide) (by decide)).mono ?_
  rintro e v1 ⟨a1, rfl, hS1, hbn1⟩
  have gQ1 := heap_below hbn1 gP
  have hBQ1 := below_then hb hb.size hbn1
  have hFQ1 := grown_trans hF0 (grown_of_below hbn1 (some r5))
  have gTq1 := heap_below hbn1 gT
  have zrq1 := heap_below hbn1 hz
  have hzq1 := Nat.le_trans hwz hbn1.size
  clear gP hb hF0 hwz gT hz hbn1
  rw [HLK.out]
  go_upto_region 48 with (first | ((with_reducible refine wpList_atS 5 ?_); refine wpList_store_any rfl 82 (.tmp 5) (.tmp 212) rfl r5 (plL A m cc a1 (p.take 4).e).toArray rfl rfl 82 _ gQ1 (info_plA _ _ _ _ _) rfl (pl_all _ _ _ _ _) ?_; intro y2 gP2 htP2))
  have hBP2 := htP2.below hBQ1 h5
  have hFP2 := grown_trans hFQ1 htP2.grown
  have gTp2 := htP2.keep gTq1 (by omega)
  have zrp2 := htP2.keep zrq1 (by omega)
  have hzp2 : w.heap.size ≤ y2.heap.size := by rw [htP2.size]; exact hzq1
  clear gQ1 hBQ1 hFQ1 hzq1 gTq1 zrq1 htP2
  have gPq : y2.heap[r5]? = some (.cells (plL A m cc a1 q.e).toArray 82) := by have hx := gP2; rw [HQ.out] at hx; exact hx
  have hSq : Sim (bs.take 65536) a1 q := by have hx := hS1; rw [HQ.out] at hx; exact hx
  have cl : y2.cell? ⟨g6, 3, none⟩ = some (.int .u32 0) := blk_cell gTp2 rfl
  have fl3 := blk_frozen gTp2 3
  have hI1 := hI.move (w1 := y2) (fun k hk hlt => hFP2.block k hlt (fun e => hk.2.1 (Option.some.inj e)))
  have hO1 := hO.move (w1 := y2) (fun k hk hlt => hFP2.block k hlt (fun e => hk.2.1 (Option.some.inj e)))
  have hTs := turned_setCell y2 g6 3 (.int .u32 lock)
  have gPx := hTs.keep gPq (by omega)
  have gT2 := blk_set gTp2 3 (.int .u32 lock)
  have hz2 := hTs.keep zrp2 (by omega)
  have hb2 := hTs.below hBP2 (by omega)
  have hI2 := hI1.move (w1 := y2.setCell ⟨g6, 3, none⟩ (.int .u32 lock)) (fun k hk _ => hTs.block k hk.2.2.1)
  have hO2 := hO1.move (w1 := y2.setCell ⟨g6, 3, none⟩ (.int .u32 lock)) (fun k hk _ => hTs.block k hk.2.2.1)
  have hs2 : w.heap.size ≤ (y2.setCell ⟨g6, 3, none⟩ (.int .u32 lock)).heap.size := by rw [hTs.size]; exact hBP2.size
  clear hI hO hI1 hO1 hTs gPq hS1 gP2 gTp2 zrp2 hBP2 hFP2
  go_upto_region 49 with fail
  refine wp_gen (q := fun wi => wi.heap[r5]? = some (.cells (plL A m cc a1 q.e).toArray 82) ∧ wi.heap[g6]? = some (.cells (tCells ver (.slice A1 N1 c1) (.slice A2 N2 c2) lock) 46) ∧ wi.heap[w.heap.size]? = some (.cells (tCells 0 (.slice none 0 0) (.slice none 0 0) 0) 46) ∧ Below w.heap.size w wi ∧ inK.C (DecS w r5 g6) wi A1 N1 xsI ∧ outK.C (DecS w r5 g6) wi A2 N2 xsO) ⟨gPx, gT2, hz2, hb2, hI2, hO2⟩ (fun w2 hw => ?_)
  clear gPx gT2 hz2 hb2 hI2 hO2 cl fl3 hwl hs2
  obtain ⟨gP2, gT2, hz2, hb2, hI2, hO2⟩ := hw
  have HNN : Hid (q.e = 0 → decN bs = a1) := Lib.hid (fun h => by
    have e1 := hSq.le
    have e2 := HN.out h
    have e3 := hSq.rest h
    have e4 : q.bs.length = (bs.take 65536).length - a1 := by rw [e3, List.length_drop]
    have e5 : (bs.take 65536).length = min 65536 bs.length := List.length_take
    have e6 := HL.out
    omega)
  clear hSq
  have d2 := blk_cell gP2 (i := 2) (v := .int .i64 q.e) rfl
  have f2 := blk_frozen gP2 2
  have g0 := blk_cell gT2 (i := 0) (v := .int .i32 ver) rfl
  have g1 := blk_cell gT2 (i := 1) (v := .slice A1 N1 c1) rfl
  have g2 := blk_cell gT2 (i := 2) (v := .slice A2 N2 c2) rfl
  have g3 := blk_cell gT2 (i := 3) (v := .int .u32 lock) rfl
  have ht1 := turned_setCell w2 r5 2 (.int .i64 2)
  have gPe : (w2.setCell ⟨r5, 2, none⟩ (.int .i64 2)).heap[r5]? = some (.cells (plL A m cc a1 2).toArray 82) := blk_set gP2 2 (.int .i64 2)
  have htb := ht1.below hb2 (by omega)
  have htg := ht1.keep gT2 (by omega)
  have htz := ht1.keep hz2 (by omega)
  have HP2 := Lib.hid gP2
  have HPE := Lib.hid gPe
  have HT1 := Lib.hid ht1
  clear gP2 gPe ht1
  by_cases hA : q.e = 8 ∧ 65536 < n
  · have hb1 : (q.e == 8) = true := by rw [hA.1]; rfl
    have hb2' : (65536 : Int) < (n : Int) := by omega
    have hx1 : decE1 bs = 2 := by rw [HE1.out, if_pos ⟨hA.1, by rw [HL.out]; exact hA.2⟩]
    have HEZ : Hid (decE bs = 2) := Lib.hid (by rw [HEB.out (by rw [hx1]; decide), hx1])
    have HNE : Hid ((2 : Int) ≠ 0) := Lib.hid (by decide)
    clear hA hx1
    have c8 : (w2.setCell ⟨r5, 2, none⟩ (.int .i64 2)).cell? ⟨r5, 2, none⟩ = some (.int .i64 2) := blk_cell HPE.out rfl
    go_upto_if 247 with fail
    go_cut [8] from 248 to 248 (fun v8 wd => v8 = .bool fl ∧ wd = (w2.setCell ⟨r5, 2, none⟩ (.int .i64 2)))
    case first =>
      go_wp2
      go_meet
      case rel => exact ⟨rfl, rfl⟩
    case rest =>
      obtain ⟨rfl, rfl⟩ := hcut
      rename_i Kx hKx
      refine hKx _ _ ?_
      refine rd_end w _ A m cc a1 r5 g6 2 ver lock A1 N1 c1 A2 N2 c2 h5' h56 HPE.out htg htz htb _ ?_
      intro z_0 z_1 z_2 z_3 z_4 z_5 z_6 z_7 z_8 nz ez cs w' q1 q2 q3 q4 q5 q6 q7 q8
      exact HE.out _ _ _ _ _ _ _ _ _ _ _ _ _ _ _ _ _ _ _ _ _ _ _ _ _ _ _ _ _ _ _ _ _ _ _ _ _ _ _ _ _ _ _ _ _ _ _ _ _ _ _ nz ez cs w' (by rw [q1, HEZ.out, if_neg HNE.out, if_neg HNE.out]) (q2.trans HEZ.out.symm) q3 q4 (fun h => absurd (HEZ.out.symm.trans h) HNE.out) (fun _ => q6 HNE.out) q7
  · have HX1 : Hid (decE1 bs = q.e) := Lib.hid (by rw [HE1.out, if_neg (fun h => hA ⟨h.1, by rw [← HL.out]; exact h.2⟩)])
    by_cases hq8 : q.e = 8
    · have hn' : ¬ (65536 : Int) < (n : Int) := fun h => hA ⟨hq8, by omega⟩
      have HEZ : Hid (decE bs = q.e) := Lib.hid (by rw [HEB.out (by rw [HX1.out, hq8]; decide), HX1.out])
      have HNE : Hid (q.e ≠ 0) := Lib.hid (by omega)
      have hb1 : (q.e == 8) = true := by rw [hq8]; rfl
      have hb0 : (q.e == 0) = false := by rw [hq8]; rfl
      clear hA hq8
      go_upto_if 247 with fail
      go_cut [8] from 248 to 248 (fun v8 wd => v8 = .bool fl ∧ wd = w2)
      case first =>
        go_wp2
        go_meet
        case rel => exact ⟨rfl, rfl⟩
      case rest =>
        obtain ⟨rfl, rfl⟩ := hcut
        rename_i Kx hKx
        refine hKx _ _ ?_
        refine rd_end w _ A m cc a1 r5 g6 q.e ver lock A1 N1 c1 A2 N2 c2 h5' h56 HP2.out gT2 hz2 hb2 _ ?_
        intro z_0 z_1 z_2 z_3 z_4 z_5 z_6 z_7 z_8 nz ez cs w' q1 q2 q3 q4 q5 q6 q7 q8
        exact HE.out _ _ _ _ _ _ _ _ _ _ _ _ _ _ _ _ _ _ _ _ _ _ _ _ _ _ _ _ _ _ _ _ _ _ _ _ _ _ _ _ _ _ _ _ _ _ _ _ _ _ _ nz ez cs w' (by rw [q1, HEZ.out, if_neg HNE.out, if_neg HNE.out]) (q2.trans HEZ.out.symm) q3 q4 (fun h => absurd (HEZ.out.symm.trans h) HNE.out) (fun _ => q6 HNE.out) q7
    · have hq8' : (q.e == 8) = false := by rw [beq_eq_false_iff_ne]; exact hq8
      by_cases hq0 : q.e = 0
      · have hq0' : (q.e == 0) = true := by rw [hq0]; rfl
        have HX0 : Hid (decE1 bs = 0) := Lib.hid (HX1.out.trans hq0)
        have HQ0 := Lib.hid hq0
        have y1 := HNN.out hq0
        have y2 := HEE.out hq0
        have y3 := HT.out hq0
        clear HNN HEE HT HEB HE1
        have HNN := Lib.hid y1
        have HEE := Lib.hid y2
        have HT := Lib.hid y3
        clear y1 y2 y3
        have HPZ : Hid (w2.heap[r5]? = some (.cells (plL A m cc a1 0).toArray 82)) := Lib.hid (by rw [← hq0]; exact HP2.out)
        clear hq0 hq8 hA
        by_cases hn1 : N1 = 0
        · have HEZ : Hid (decE bs = 2) := Lib.hid (by rw [HEE.out, if_pos ⟨HX0.out, .inl hn1⟩])
          have HNE : Hid ((2 : Int) ≠ 0) := Lib.hid (by decide)
          have hn1' : ((N1 : Int) == 0) = true := by rw [hn1]; rfl
          clear hn1
          go_upto_if 247 with fail
          go_cut [8] from 248 to 248 (fun v8 wd => v8 = .bool fl ∧ wd = (w2.setCell ⟨r5, 2, none⟩ (.int .i64 2)))
          case first =>
            go_wp2
            go_meet
            case rel => exact ⟨rfl, rfl⟩
          case rest =>
            obtain ⟨rfl, rfl⟩ := hcut
            rename_i Kx hKx
            refine hKx _ _ ?_
            refine rd_end w _ A m cc a1 r5 g6 2 ver lock A1 N1 c1 A2 N2 c2 h5' h56 HPE.out htg htz htb _ ?_
            intro z_0 z_1 z_2 z_3 z_4 z_5 z_6 z_7 z_8 nz ez cs w' q1 q2 q3 q4 q5 q6 q7 q8
            exact HE.out _ _ _ _ _ _ _ _ _ _ _ _ _ _ _ _ _ _ _ _ _ _ _ _ _ _ _ _ _ _ _ _ _ _ _ _ _ _ _ _ _ _ _ _ _ _ _ _ _ _ _ nz ez cs w' (by rw [q1, HEZ.out, if_neg HNE.out, if_neg HNE.out]) (q2.trans HEZ.out.symm) q3 q4 (fun h => absurd (HEZ.out.symm.trans h) HNE.out) (fun _ => q6 HNE.out) q7
        · have hn1' : ((N1 : Int) == 0) = false := by rw [beq_eq_false_iff_ne]; omega
          by_cases hn2 : N2 = 0
          · have HEZ : Hid (decE bs = 2) := Lib.hid (by rw [HEE.out, if_pos ⟨HX0.out, .inr (.inl hn2)⟩])
            have HNE : Hid ((2 : Int) ≠ 0) := Lib.hid (by decide)
            have hn2' : ((N2 : Int) == 0) = true := by rw [hn2]; rfl
            clear hn2
            go_upto_if 247 with fail
            go_cut [8] from 248 to 248 (fun v8 wd => v8 = .bool fl ∧ wd = (w2.setCell ⟨r5, 2, none⟩ (.int .i64 2)))
            case first =>
              go_wp2
              go_meet
              case rel => exact ⟨rfl, rfl⟩
            case rest =>
              obtain ⟨rfl, rfl⟩ := hcut
              rename_i Kx hKx
              refine hKx _ _ ?_
              refine rd_end w _ A m cc a1 r5 g6 2 ver lock A1 N1 c1 A2 N2 c2 h5' h56 HPE.out htg htz htb _ ?_
              intro z_0 z_1 z_2 z_3 z_4 z_5 z_6 z_7 z_8 nz ez cs w' q1 q2 q3 q4 q5 q6 q7 q8
              exact HE.out _ _ _ _ _ _ _ _ _ _ _ _ _ _ _ _ _ _ _ _ _ _ _ _ _ _ _ _ _ _ _ _ _ _ _ _ _ _ _ _ _ _ _ _ _ _ _ _ _ _ _ nz ez cs w' (by rw [q1, HEZ.out, if_neg HNE.out, if_neg HNE.out]) (q2.trans HEZ.out.symm) q3 q4 (fun h => absurd (HEZ.out.symm.trans h) HNE.out) (fun _ => q6 HNE.out) q7
          · have hn2' : ((N2 : Int) == 0) = false := by rw [beq_eq_false_iff_ne]; omega
            have HN1 := Lib.hid hn1
            have HN2 := Lib.hid hn2
            clear hn1 hn2
            have hTK : txK.K (DecS w r5 g6) w2 (decT bs) [.int .i32 ver, .slice A1 N1 c1, .slice A2 N2 c2, .int .u32 lock] := by
              rw [HT.out]
              exact ⟨A1, N1, c1, A2, N2, c2, rfl, hvr, hlk, h1, h2, h3, h4, hI2, hO2⟩
            have hKK : ∀ w', (∀ k, DecS w r5 g6 k → k < w2.heap.size → w'.heap[k]? = w2.heap[k]?) → txK.K (fun b => w.heap.size ≤ b) w' (decT bs) [.int .i32 ver, .slice A1 N1 c1, .slice A2 N2 c2, .int .u32 lock] := fun w' hm => txK.mono (fun k hk => hk.1) (txK.move hm hTK)
            have HKK := Lib.hid hKK
            have HTK := Lib.hid hTK
            clear hKK hTK hvr hI2 hO2
            cases fl with
            | false =>
              have HEZ : Hid (decE bs = 0) := Lib.hid (by rw [HEE.out, if_neg, HX0.out]; rintro ⟨_, h | h | h⟩; exact HN1.out h; exact HN2.out h; cases h.1)
              go_upto_if 247 with fail
              go_cut [8] from 248 to 248 (fun v8 wd => v8 = .bool false ∧ wd = w2)
              case first =>
                go_wp2
                go_meet
                case rel => exact ⟨rfl, rfl⟩
              case rest =>
                obtain ⟨rfl, rfl⟩ := hcut
                rename_i Kx hKx
                refine hKx _ _ ?_
                refine rd_end w _ A m cc a1 r5 g6 0 ver lock A1 N1 c1 A2 N2 c2 h5' h56 HPZ.out gT2 hz2 hb2 _ ?_
                intro z_0 z_1 z_2 z_3 z_4 z_5 z_6 z_7 z_8 nz ez cs w' q1 q2 q3 q4 q5 q6 q7 q8
                exact HE.out _ _ _ _ _ _ _ _ _ _ _ _ _ _ _ _ _ _ _ _ _ _ _ _ _ _ _ _ _ _ _ _ _ _ _ _ _ _ _ _ _ _ _ _ _ _ _ _ _ _ _ nz ez cs w' (by rw [q1, HEZ.out, if_pos rfl, if_pos rfl, HNN.out]) (q2.trans HEZ.out.symm) q3 q4 (fun _ => by rw [q5 rfl]; exact HKK.out w' (fun k hk hlt => q8 k hlt hk.2.2.2)) (fun h => absurd HEZ.out h) q7
            | true =>
              cases hw : (decT bs).hasWit with
              | true =>
                have HEZ : Hid (decE bs = 0) := Lib.hid (by rw [HEE.out, if_neg, HX0.out]; rintro ⟨_, h | h | h⟩; exact HN1.out h; exact HN2.out h; rw [hw] at h; cases h.2)
                have HW := Lib.hid hw
                clear hw
                go_wp2_with fail
                refine (rhas_calls _ _ _ _ HTK.out).mono ?_
                rintro e w3 ⟨rfl, hb3⟩
                rw [HW.out]
                have gP3 := heap_below hb3 HPZ.out
                have gT3 := heap_below hb3 gT2
                have hz3 := heap_below hb3 hz2
                have hb3' := below_then hb2 hb2.size hb3
                go_upto_if 247 with fail
                go_cut [8] from 248 to 248 (fun v8 wd => v8 = .bool true ∧ wd = w3)
                case first =>
                  go_wp2
                  go_meet
                  case rel => exact ⟨rfl, rfl⟩
                case rest =>
                  obtain ⟨rfl, rfl⟩ := hcut
                  rename_i Kx hKx
                  refine hKx _ _ ?_
                  refine rd_end w _ A m cc a1 r5 g6 0 ver lock A1 N1 c1 A2 N2 c2 h5' h56 gP3 gT3 hz3 hb3' _ ?_
                  intro z_0 z_1 z_2 z_3 z_4 z_5 z_6 z_7 z_8 nz ez cs w' q1 q2 q3 q4 q5 q6 q7 q8
                  exact HE.out _ _ _ _ _ _ _ _ _ _ _ _ _ _ _ _ _ _ _ _ _ _ _ _ _ _ _ _ _ _ _ _ _ _ _ _ _ _ _ _ _ _ _ _ _ _ _ _ _ _ _ nz ez cs w' (by rw [q1, HEZ.out, if_pos rfl, if_pos rfl, HNN.out]) (q2.trans HEZ.out.symm) q3 q4 (fun _ => by rw [q5 rfl]; exact HKK.out w' (fun k hk hlt => (q8 k (by have := hb3.size; omega) hk.2.2.2).trans (hb3.block k hlt))) (fun h => absurd HEZ.out h) q7
              | false =>
                have HEZ : Hid (decE bs = 2) := Lib.hid (by rw [HEE.out, if_pos ⟨HX0.out, .inr (.inr ⟨rfl, hw⟩)⟩])
                have HNE : Hid ((2 : Int) ≠ 0) := Lib.hid (by decide)
                have HW := Lib.hid hw
                clear hw
                go_wp2_with fail
                refine (rhas_calls _ _ _ _ HTK.out).mono ?_
                rintro e w3 ⟨rfl, hb3⟩
                rw [HW.out]
                have gP3 := heap_below hb3 HPZ.out
                have gT3 := heap_below hb3 gT2
                have hz3 := heap_below hb3 hz2
                have hb3' := below_then hb2 hb2.size hb3
                have d23 := cell_below hb3 d2
                have f23 := blk_frozen gP3 2
                have t3 := turned_setCell w3 r5 2 (.int .i64 2)
                have gP4 : (w3.setCell ⟨r5, 2, none⟩ (.int .i64 2)).heap[r5]? = some (.cells (plL A m cc a1 2).toArray 82) := blk_set gP3 2 (.int .i64 2)
                have gT4 := t3.keep gT3 (by omega)
                have hz4 := t3.keep hz3 (by omega)
                have hb4 := t3.below hb3' (by omega)
                have HP4 := Lib.hid gP4
                clear gP4 t3 gP3
                go_upto_if 247 with fail
                go_cut [8] from 248 to 248 (fun v8 wd => v8 = .bool true ∧ wd = (w3.setCell ⟨r5, 2, none⟩ (.int .i64 2)))
                case first =>
                  go_wp2
                  go_meet
                  case rel => exact ⟨rfl, rfl⟩
                case rest =>
                  obtain ⟨rfl, rfl⟩ := hcut
                  rename_i Kx hKx
                  refine hKx _ _ ?_
                  refine rd_end w _ A m cc a1 r5 g6 2 ver lock A1 N1 c1 A2 N2 c2 h5' h56 HP4.out gT4 hz4 hb4 _ ?_
                  intro z_0 z_1 z_2 z_3 z_4 z_5 z_6 z_7 z_8 nz ez cs w' q1 q2 q3 q4 q5 q6 q7 q8
                  exact HE.out _ _ _ _ _ _ _ _ _ _ _ _ _ _ _ _ _ _ _ _ _ _ _ _ _ _ _ _ _ _ _ _ _ _ _ _ _ _ _ _ _ _ _ _ _ _ _ _ _ _ _ nz ez cs w' (by rw [q1, HEZ.out, if_neg HNE.out, if_neg HNE.out]) (q2.trans HEZ.out.symm) q3 q4 (fun h => absurd (HEZ.out.symm.trans h) HNE.out) (fun _ => q6 HNE.out) q7
      · have hq0' : (q.e == 0) = false := by rw [beq_eq_false_iff_ne]; exact hq0
        have HEZ : Hid (decE bs = q.e) := Lib.hid (by rw [HEB.out (by rw [HX1.out]; exact hq0), HX1.out])
        have HNE := Lib.hid hq0
        clear hq0 hq8 hA
        go_upto_if 247 with fail
        go_cut [8] from 248 to 248 (fun v8 wd => v8 = .bool fl ∧ wd = w2)
        case first =>
          go_wp2
          go_meet
          case rel => exact ⟨rfl, rfl⟩
        case rest =>
          obtain ⟨rfl, rfl⟩ := hcut
          rename_i Kx hKx
          refine hKx _ _ ?_
          refine rd_end w _ A m cc a1 r5 g6 q.e ver lock A1 N1 c1 A2 N2 c2 h5' h56 HP2.out gT2 hz2 hb2 _ ?_
          intro z_0 z_1 z_2 z_3 z_4 z_5 z_6 z_7 z_8 nz ez cs w' q1 q2 q3 q4 q5 q6 q7 q8
          exact HE.out _ _ _ _ _ _ _ _ _ _ _ _ _ _ _ _ _ _ _ _ _ _ _ _ _ _ _ _ _ _ _ _ _ _ _ _ _ _ _ _ _ _ _ _ _ _ _ _ _ _ _ nz ez cs w' (by rw [q1, HEZ.out, if_neg HNE.out, if_neg HNE.out]) (q2.trans HEZ.out.symm) q3 q4 (fun h => absurd (HEZ.out.symm.trans h) HNE.out) (fun _ => q6 HNE.out) q7
end Go.Proofs.Ytjlkakggmfmfiaa
