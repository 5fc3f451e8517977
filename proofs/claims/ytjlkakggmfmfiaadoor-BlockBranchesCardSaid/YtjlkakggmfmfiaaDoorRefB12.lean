/- The reference's digest: its bytes. -/
import Derived.Test.YtjlkakggmfmfiaaDoorRefBlk
set_option maxRecDepth 100000
set_option linter.unusedVariables false
namespace Go.Proofs.YtjlkakggmfmfiaaDoor
open Go Go.RowKit
noncomputable def refB12 : Code := ((Tryd.f24.body.bind (findB 12)).getD .skip)
set_option maxHeartbeats 1000000 in
theorem ref_b12 {u0 u1 u2 u3 u4 u5 u6 u7 u8 u10 u11 u12 u13 u14 u15 u16 u17 u18 u19 u20 u21 u22 u23 u24 u25 u26 u29 u30 u31 u32 u33 u34 u35 u36 u37 u38 u39 u40 u41 u42 u43 u44 u45 u46 u47 u48 u49 u50 u51 u52 u53 u54 u55 u56 u57 u58 u59 u60 u61 u62 u63 u64 u65 u66 u67 u68 u69 u70 u71 u72 u73 u74 u75 u76 u77 u78 u79 u80 u81 u82 u83 u84 u85 u86 u87 u88 u89 u90 u91 u92 u93 u94 u95 u96 u97 u98 u99 u100 u101 u102 u103 u104 u105 u106 u107 u108 u109 u110 u111 u112 u113 u114 u115 u116 u117 u118 u119 u120 u121 u122 u123 u124 u125 u126 u127 u128 u129 u130 u131 u132 u133 u134 u135 u136 u137 u138 u139 u140 u141 u142 u143 u144 u145 u146 u147 u148 u149 u150 u151 u152 u153 u154 u155 u156 u157 u158 u159 u160 u161 u162 u163 u164 u165 u166 u167 u168 u169 u170 u171 u172 u173 u174 u175 u176 u177 u178 u179 u180 u181 u182 u183 u184 u185 u186 u187 u188 u189 u190 u191 u192 u193 u194 u195 u196 u197 u198 u199 u200 u201 u202 u203 u204 u205 u206 u207 u208 u209 u210 u211 u212 u213 u214 u215 u216 u217 u218 u219 u220 u221 u222 u223 u224 u225 u226 u227 u228 u229 u230 u231 u232 u233 u234 u235 u236 u237 u238 u239 u240 u241 u242 u243 u244 u245 u246 u247 u248 u249 u250 u251 u252 u253 u254 u255 u256 u257 u258 u259 u260 u261 u262 u263 u264 u265 u266 u267 u268 u269 u270 u271 u272 u273 u274 u275 u276 u277 u278 u279 u280 u281 u282 u283 u284 u285 u286 u287 u288 u289 u290 u291 u292 u293 u294 u295 u296 u297 u298 u299 u300 u301 u302 u303 u304 u305 u306 u307 u308 u309 u310 u311 u312 u313 u314 u315 u316 u317 : Value} (w wr : World) (g9 g27 : Nat) (sF : S8) (hok : sF.Ok) (hI : RefInv w wr) (hg : w.heap.size + 2 ≤ g27) (hne : g9 ≠ g27) (hb9 : wr.heap[g9]? = some (.cells sF.cells 28)) (hb27 : wr.heap[g27]? = some (.cells (nums .u8 (List.replicate 32 0)).toArray 24)) (Q0 : Exit → Act → World → Prop)
    (hexit : ∀ x28 x29 x30 x296 x297 x298 x299 x300 x301 x302 x303 x304 x305 x306 x307 x308 x309 x310 x311 x312 x313 x314 x315 x316 w3, RefInv w w3 → w3.heap[g27]? = some (.cells (nums .u8 (outF sF)).toArray 24) → Q0 .normal ⟨#[u0, u1, u2, u3, u4, u5, u6, u7, u8, .pointer (some ⟨g9, 0, none⟩), u10, u11, u12, u13, u14, u15, u16, u17, u18, u19, u20, u21, u22, u23, u24, u25, u26, .pointer (some ⟨g27, 0, none⟩), x28, x29, x30, u31, u32, u33, u34, u35, u36, u37, u38, u39, u40, u41, u42, u43, u44, u45, u46, u47, u48, u49, u50, u51, u52, u53, u54, u55, u56, u57, u58, u59, u60, u61, u62, u63, u64, u65, u66, u67, u68, u69, u70, u71, u72, u73, u74, u75, u76, u77, u78, u79, u80, u81, u82, u83, u84, u85, u86, u87, u88, u89, u90, u91, u92, u93, u94, u95, u96, u97, u98, u99, u100, u101, u102, u103, u104, u105, u106, u107, u108, u109, u110, u111, u112, u113, u114, u115, u116, u117, u118, u119, u120, u121, u122, u123, u124, u125, u126, u127, u128, u129, u130, u131, u132, u133, u134, u135, u136, u137, u138, u139, u140, u141, u142, u143, u144, u145, u146, u147, u148, u149, u150, u151, u152, u153, u154, u155, u156, u157, u158, u159, u160, u161, u162, u163, u164, u165, u166, u167, u168, u169, u170, u171, u172, u173, u174, u175, u176, u177, u178, u179, u180, u181, u182, u183, u184, u185, u186, u187, u188, u189, u190, u191, u192, u193, u194, u195, u196, u197, u198, u199, u200, u201, u202, u203, u204, u205, u206, u207, u208, u209, u210, u211, u212, u213, u214, u215, u216, u217, u218, u219, u220, u221, u222, u223, u224, u225, u226, u227, u228, u229, u230, u231, u232, u233, u234, u235, u236, u237, u238, u239, u240, u241, u242, u243, u244, u245, u246, u247, u248, u249, u250, u251, u252, u253, u254, u255, u256, u257, u258, u259, u260, u261, u262, u263, u264, u265, u266, u267, u268, u269, u270, u271, u272, u273, u274, u275, u276, u277, u278, u279, u280, u281, u282, u283, u284, u285, u286, u287, u288, u289, u290, u291, u292, u293, u294, u295, x296, x297, x298, x299, x300, x301, x302, x303, x304, x305, x306, x307, x308, x309, x310, x311, x312, x313, x314, x315, x316, u317], []⟩ w3) :
    Code.wp Tryd.prog refB12 Q0 ⟨#[u0, u1, u2, u3, u4, u5, u6, u7, u8, .pointer (some ⟨g9, 0, none⟩), u10, u11, u12, u13, u14, u15, u16, u17, u18, u19, u20, u21, u22, u23, u24, u25, u26, .pointer (some ⟨g27, 0, none⟩), .int .i64 0, u29, u30, u31, u32, u33, u34, u35, u36, u37, u38, u39, u40, u41, u42, u43, u44, u45, u46, u47, u48, u49, u50, u51, u52, u53, u54, u55, u56, u57, u58, u59, u60, u61, u62, u63, u64, u65, u66, u67, u68, u69, u70, u71, u72, u73, u74, u75, u76, u77, u78, u79, u80, u81, u82, u83, u84, u85, u86, u87, u88, u89, u90, u91, u92, u93, u94, u95, u96, u97, u98, u99, u100, u101, u102, u103, u104, u105, u106, u107, u108, u109, u110, u111, u112, u113, u114, u115, u116, u117, u118, u119, u120, u121, u122, u123, u124, u125, u126, u127, u128, u129, u130, u131, u132, u133, u134, u135, u136, u137, u138, u139, u140, u141, u142, u143, u144, u145, u146, u147, u148, u149, u150, u151, u152, u153, u154, u155, u156, u157, u158, u159, u160, u161, u162, u163, u164, u165, u166, u167, u168, u169, u170, u171, u172, u173, u174, u175, u176, u177, u178, u179, u180, u181, u182, u183, u184, u185, u186, u187, u188, u189, u190, u191, u192, u193, u194, u195, u196, u197, u198, u199, u200, u201, u202, u203, u204, u205, u206, u207, u208, u209, u210, u211, u212, u213, u214, u215, u216, u217, u218, u219, u220, u221, u222, u223, u224, u225, u226, u227, u228, u229, u230, u231, u232, u233, u234, u235, u236, u237, u238, u239, u240, u241, u242, u243, u244, u245, u246, u247, u248, u249, u250, u251, u252, u253, u254, u255, u256, u257, u258, u259, u260, u261, u262, u263, u264, u265, u266, u267, u268, u269, u270, u271, u272, u273, u274, u275, u276, u277, u278, u279, u280, u281, u282, u283, u284, u285, u286, u287, u288, u289, u290, u291, u292, u293, u294, u295, u296, u297, u298, u299, u300, u301, u302, u303, u304, u305, u306, u307, u308, u309, u310, u311, u312, u313, u314, u315, u316, u317], []⟩ wr := by
  have HE := Lib.hid hexit
  clear hexit
  conv => arg 2; whnf
  go_wp2
  go_loopw [28] (fun v wq => ∃ (i : Nat) (Lq : List Int), i ≤ 8 ∧ v = .int .i64 i ∧ Hid (OutQ sF i 0 Lq) ∧ RefInv w wq ∧ wq.heap[g9]? = some (.cells sF.cells 28) ∧ wq.heap[g27]? = some (.cells (nums .u8 Lq).toArray 24)) (fun v _ => (8 - intOf v).toNat)
  case atStart => exact ⟨0, List.replicate 32 0, by omega, rfl, Lib.hid (OutQ.zero _), hI, hb9, hb27⟩
  case round =>
    clear hI hb9 hb27
    obtain ⟨i, Lq, hi, rfl, hO, hI, hb9, hb27⟩ := hrel
    by_cases hi8 : i < 8
    · have hi8' : (i : Int) < 8 := by omega
      have hi0 : (0 : Int) ≤ (i : Int) := by omega
      have hc := blk_num (xs := sF.list) hb9 i (by show i < 8; exact hi8)
      have hr := list_range hok i hi8
      go_wp2
      go_loopw [29, 30] (fun v29 v30 wz => ∃ (t : Nat) (Lz : List Int), t ≤ 4 ∧ v30 = .int .i64 (3 - t) ∧ v29 = .int .u32 (rd sF.list i / 2 ^ (8 * t)) ∧ Hid (OutQ sF i t Lz) ∧ RefInv w wz ∧ wz.heap[g9]? = some (.cells sF.cells 28) ∧ wz.heap[g27]? = some (.cells (nums .u8 Lz).toArray 24)) (fun _ v _ => (intOf v + 1).toNat)
      case atStart => exact ⟨0, Lq, by omega, rfl, by simp, hO, hI, hb9, hb27⟩
      case round =>
        clear hI hb9 hb27 hO hc
        obtain ⟨t, Lz, ht, rfl, rfl, hO, hI, hb9, hb27⟩ := hrel
        have hd := div_range _ t hr.1 hr.2
        have hn := div_next (rd sF.list i) t
        obtain ⟨x, hx⟩ : ∃ x, x = rd sF.list i / 2 ^ (8 * t) := ⟨_, rfl⟩
        rw [← hx] at hd hn ⊢
        have HX := Lib.hid hx
        have HN := Lib.hid hn
        clear hx hn
        by_cases ht4 : t < 4
        · have t3 : (t : Int) ≤ 3 := by omega
          have e1 : (4 * (i : Int) + (3 - (t : Int))).toNat = 4 * i + 3 - t := by omega
          have p1 : 0 ≤ 4 * (i : Int) + (3 - (t : Int)) := by omega
          have p2 : 4 * (i : Int) + (3 - (t : Int)) < 32 := by omega
          have hfz := blk_frozen hb27 (4 * i + 3 - t)
          have hcz := blk_num hb27 (4 * i + 3 - t) (by rw [hO.out.1]; omega)
          have hs := hO.out.step hi8 ht4
          rw [outB_at sF i t ht4, ← HX.out] at hs
          have HS := Lib.hid hs
          clear hs
          have hset := blk_set hb27 (4 * i + 3 - t) (.int .u8 (x % 256))
          rw [nums_setA] at hset
          have hset9 := blk_far hb9 (p := ⟨g27, 4 * i + 3 - t, none⟩) hne (.int .u8 (x % 256))
          have hI3 := hI.turned (turned_setCell wr g27 (4 * i + 3 - t) (.int .u8 (x % 256))) hg
          have H3 := Lib.hid (And.intro hset (And.intro hset9 hI3))
          clear hset hset9 hI3
          go_wp2
          go_roundw
          case rel => exact ⟨t + 1, Lz.set (4 * i + 3 - t) (x % 256), by omega, by rw [show (3 - (t : Int) - 1) = 3 - ((t + 1 : Nat) : Int) by omega], by rw [HN.out], HS, H3.out.2.2, H3.out.2.1, H3.out.1⟩
          case measure => simp [intOf]; omega
        · obtain rfl : t = 4 := by omega
          have hO2 := Lib.hid hO.out.next
          have h31 : ((3 : Int) - ((4 : Nat) : Int)) = -1 := by omega
          clear hO
          rw [h31]
          clear h31
          go_wp2
          go_roundw
          case rel => exact ⟨i + 1, Lz, by omega, by go_num, hO2, hI, hb9, hb27⟩
          case measure => simp [intOf]; omega
    · obtain rfl : i = 8 := by omega
      have hL := hO.out.done
      subst hL
      go_wp2
      exact HE.out _ _ _ _ _ _ _ _ _ _ _ _ _ _ _ _ _ _ _ _ _ _ _ _ wr hI hb27
end Go.Proofs.YtjlkakggmfmfiaaDoor
