/- The reference's digest: the loop that makes the schedule's further numbers. -/
import Derived.Test.YtjlkakggmfmfiaaDoorRefInv
import Derived.Test.YtjlkakggmfmfiaaDoorRefReg
import Derived.Deep.CutBlock
set_option maxRecDepth 100000
set_option linter.unusedVariables false
namespace Go.Proofs.YtjlkakggmfmfiaaDoor
open Go Go.RowKit
noncomputable def refP8 : Code := ((Tryd.f24.body.bind (findB 8)).getD .skip)
set_option maxHeartbeats 4000000 in
theorem ref_p8 {u0 u1 u3 u4 u6 u7 u8 u12 u14 u15 u16 u17 u18 u19 u20 u21 u22 u23 u24 u25 u26 u27 u28 u29 u30 u31 u32 u33 u34 u35 u36 u37 u38 u39 u40 u41 u42 u43 u44 u45 u46 u47 u48 u49 u50 u51 u52 u53 u54 u55 u56 u57 u58 u59 u60 u61 u62 u63 u64 u65 u66 u67 u68 u69 u70 u71 u72 u73 u74 u75 u76 u77 u78 u79 u80 u81 u82 u83 u84 u85 u86 u87 u88 u89 u90 u91 u92 u93 u94 u95 u96 u97 u98 u99 u100 u101 u102 u103 u104 u105 u106 u107 u108 u109 u110 u111 u112 u113 u114 u115 u116 u117 u118 u119 u120 u121 u122 u123 u124 u125 u126 u127 u128 u129 u130 u131 u132 u133 u134 u135 u136 u137 u138 u139 u140 u141 u142 u143 u144 u145 u146 u147 u148 u149 u150 u151 u152 u153 u154 u155 u156 u157 u158 u159 u160 u161 u162 u163 u164 u165 u166 u167 u168 u169 u170 u171 u172 u173 u174 u175 u176 u177 u178 u179 u180 u181 u182 u183 u184 u185 u186 u187 u188 u189 u190 u191 u192 u193 u194 u195 u196 u197 u198 u199 u200 u201 u202 u203 u204 u205 u206 u207 u208 u209 u210 u211 u212 u213 u214 u215 u216 u217 u218 u219 u220 u221 u222 u223 u224 u225 u226 u227 u228 u229 u230 u231 u232 u233 u234 u235 u236 u237 u238 u239 u240 u241 u242 u243 u244 u245 u246 u247 u248 u249 u250 u251 u252 u253 u254 u255 u256 u257 u258 u259 u260 u261 u262 u263 u264 u265 u266 u267 u268 u269 u270 u271 u272 u273 u274 u275 u276 u277 u278 u279 u280 u281 u282 u283 u284 u285 u286 u287 u288 u289 u290 u291 u292 u293 u294 u295 u296 u297 u298 u299 u300 u301 u302 u303 u304 u305 u306 u307 u308 u309 u310 u311 u312 u313 u314 u315 u316 u317 : Value} (w wr : World) (Aw : Option Addr) (cw gm cm N g9 at_ : Nat) (bs bk : List Int) (st : S8) (hI : RefInv w wr) (hm : wr.ownsRow (w.heap.size + 2) 5 1 (.slice (some ⟨gm, 0, none⟩) N cm) N (nums .u8 (pad bs))) (hb9 : wr.heap[g9]? = some (.cells st.cells 28)) (hW : wr.ownsRow (w.heap.size + 2) 27 1 (.slice Aw 16 cw) 16 (nums .u32 (schL bk 16))) (Q0 : Exit → Act → World → Prop)
    (hexit : ∀ x13 x14 x15 x112 x113 x114 x115 x116 x117 x118 x119 x120 x121 x122 x123 x124 x125 x126 x127 x128 x129 x130 x131 x132 x133 x134 x135 x136 x137 x138 x139 x140 x141 x142 x143 x144 x145 x146 x147 x148 x149 x150 x151 x152 x153 x154 x155 x156 x157 x158 x159 x160 x161 x162 x163 x164 x165 x166 x167 x168 x169 x170 x171 x172 x173 A1 c1 w3, w3.ownsRow (w.heap.size + 2) 27 1 (.slice A1 64 c1) 64 (nums .u32 (schL bk 64)) → RefInv w w3 → w3.ownsRow (w.heap.size + 2) 5 1 (.slice (some ⟨gm, 0, none⟩) N cm) N (nums .u8 (pad bs)) → w3.heap[g9]? = some (.cells st.cells 28) → Q0 .normal ⟨#[u0, u1, .pointer (some ⟨w.heap.size, 0, none⟩), u3, u4, .slice (some ⟨gm, 0, none⟩) N cm, u6, u7, u8, .pointer (some ⟨g9, 0, none⟩), .int .i64 at_, .slice A1 64 c1, u12, x13, x14, x15, u16, u17, u18, u19, u20, u21, u22, u23, u24, u25, u26, u27, u28, u29, u30, u31, u32, u33, u34, u35, u36, u37, u38, u39, u40, u41, u42, u43, u44, u45, u46, u47, u48, u49, u50, u51, u52, u53, u54, u55, u56, u57, u58, u59, u60, u61, u62, u63, u64, u65, u66, u67, u68, u69, u70, u71, u72, u73, u74, u75, u76, u77, u78, u79, u80, u81, u82, u83, u84, u85, u86, u87, u88, u89, u90, u91, u92, u93, u94, u95, u96, u97, u98, u99, u100, u101, u102, u103, u104, u105, u106, u107, u108, u109, u110, u111, x112, x113, x114, x115, x116, x117, x118, x119, x120, x121, x122, x123, x124, x125, x126, x127, x128, x129, x130, x131, x132, x133, x134, x135, x136, x137, x138, x139, x140, x141, x142, x143, x144, x145, x146, x147, x148, x149, x150, x151, x152, x153, x154, x155, x156, x157, x158, x159, x160, x161, x162, x163, x164, x165, x166, x167, x168, x169, x170, x171, x172, x173, u174, u175, u176, u177, u178, u179, u180, u181, u182, u183, u184, u185, u186, u187, u188, u189, u190, u191, u192, u193, u194, u195, u196, u197, u198, u199, u200, u201, u202, u203, u204, u205, u206, u207, u208, u209, u210, u211, u212, u213, u214, u215, u216, u217, u218, u219, u220, u221, u222, u223, u224, u225, u226, u227, u228, u229, u230, u231, u232, u233, u234, u235, u236, u237, u238, u239, u240, u241, u242, u243, u244, u245, u246, u247, u248, u249, u250, u251, u252, u253, u254, u255, u256, u257, u258, u259, u260, u261, u262, u263, u264, u265, u266, u267, u268, u269, u270, u271, u272, u273, u274, u275, u276, u277, u278, u279, u280, u281, u282, u283, u284, u285, u286, u287, u288, u289, u290, u291, u292, u293, u294, u295, u296, u297, u298, u299, u300, u301, u302, u303, u304, u305, u306, u307, u308, u309, u310, u311, u312, u313, u314, u315, u316, u317], []⟩ w3) :
    Code.wp Tryd.prog refP8 Q0 ⟨#[u0, u1, .pointer (some ⟨w.heap.size, 0, none⟩), u3, u4, .slice (some ⟨gm, 0, none⟩) N cm, u6, u7, u8, .pointer (some ⟨g9, 0, none⟩), .int .i64 at_, .slice Aw 16 cw, u12, .int .i64 16, u14, u15, u16, u17, u18, u19, u20, u21, u22, u23, u24, u25, u26, u27, u28, u29, u30, u31, u32, u33, u34, u35, u36, u37, u38, u39, u40, u41, u42, u43, u44, u45, u46, u47, u48, u49, u50, u51, u52, u53, u54, u55, u56, u57, u58, u59, u60, u61, u62, u63, u64, u65, u66, u67, u68, u69, u70, u71, u72, u73, u74, u75, u76, u77, u78, u79, u80, u81, u82, u83, u84, u85, u86, u87, u88, u89, u90, u91, u92, u93, u94, u95, u96, u97, u98, u99, u100, u101, u102, u103, u104, u105, u106, u107, u108, u109, u110, u111, u112, u113, u114, u115, u116, u117, u118, u119, u120, u121, u122, u123, u124, u125, u126, u127, u128, u129, u130, u131, u132, u133, u134, u135, u136, u137, u138, u139, u140, u141, u142, u143, u144, u145, u146, u147, u148, u149, u150, u151, u152, u153, u154, u155, u156, u157, u158, u159, u160, u161, u162, u163, u164, u165, u166, u167, u168, u169, u170, u171, u172, u173, u174, u175, u176, u177, u178, u179, u180, u181, u182, u183, u184, u185, u186, u187, u188, u189, u190, u191, u192, u193, u194, u195, u196, u197, u198, u199, u200, u201, u202, u203, u204, u205, u206, u207, u208, u209, u210, u211, u212, u213, u214, u215, u216, u217, u218, u219, u220, u221, u222, u223, u224, u225, u226, u227, u228, u229, u230, u231, u232, u233, u234, u235, u236, u237, u238, u239, u240, u241, u242, u243, u244, u245, u246, u247, u248, u249, u250, u251, u252, u253, u254, u255, u256, u257, u258, u259, u260, u261, u262, u263, u264, u265, u266, u267, u268, u269, u270, u271, u272, u273, u274, u275, u276, u277, u278, u279, u280, u281, u282, u283, u284, u285, u286, u287, u288, u289, u290, u291, u292, u293, u294, u295, u296, u297, u298, u299, u300, u301, u302, u303, u304, u305, u306, u307, u308, u309, u310, u311, u312, u313, u314, u315, u316, u317], []⟩ wr := by
  have HE := Lib.hid hexit
  clear hexit
  conv => arg 2; whnf
  go_wp2
  go_loopw [11, 13] (fun v11 v13 wr => ∃ (i : Nat) (Aw : Option Addr) (cw : Nat), 16 ≤ i ∧ i ≤ 64 ∧ v13 = .int .i64 i ∧ v11 = .slice Aw i cw ∧ wr.ownsRow (w.heap.size + 2) 27 1 v11 i (nums .u32 (schL bk i)) ∧ RefInv w wr ∧ wr.ownsRow (w.heap.size + 2) 5 1 (.slice (some ⟨gm, 0, none⟩) N cm) N (nums .u8 (pad bs)) ∧ wr.heap[g9]? = some (.cells st.cells 28)) (fun _ v _ => (64 - intOf v).toNat)
  case atStart => exact ⟨16, Aw, cw, by omega, by omega, rfl, rfl, hW, hI, hm, hb9⟩
  case round =>
    clear hI hm hb9 hW
    obtain ⟨i, Aw, cw, hi16, hi64, rfl, rfl, hW, hI, hm, hb9⟩ := hrel
    obtain ⟨gw, capw, hvw, hgw, _⟩ := hW.form (by omega)
    obtain ⟨rfl, rfl⟩ : Aw = some ⟨gw, 0, none⟩ ∧ cw = capw := by injection hvw with e1 e2 e3; exact ⟨e1, e3⟩
    clear hvw
    by_cases hi : i < 64
    · obtain ⟨a15, h15⟩ : ∃ a, i = a + 15 := ⟨i - 15, by omega⟩
      obtain ⟨a2, h2⟩ : ∃ a, i = a + 2 := ⟨i - 2, by omega⟩
      obtain ⟨a16, h16⟩ : ∃ a, i = a + 16 := ⟨i - 16, by omega⟩
      obtain ⟨a7, h7⟩ : ∃ a, i = a + 7 := ⟨i - 7, by omega⟩
      have q15 := own_cell hW a15 (by omega)
      have q2 := own_cell hW a2 (by omega)
      have hs := (schL_succ bk i).trans (by rw [nextW_eq bk _ i hi16])
      rw [show i - 16 = a16 by omega, show i - 15 = a15 by omega, show i - 7 = a7 by omega, show i - 2 = a2 by omega] at hs
      have HS := Lib.hid hs
      obtain ⟨l, hl_⟩ : ∃ l, l = schL bk i := ⟨_, rfl⟩
      rw [← hl_] at q15 q2 hW HS
      have e15 : IntKind.i64.wrap ((i : Int) - 15) = (a15 : Int) := by rw [IntWalk.i64_in _ (by omega)]; omega
      have e2 : IntKind.i64.wrap ((i : Int) - 2) = (a2 : Int) := by rw [IntWalk.i64_in _ (by omega)]; omega
      have z15 : (0 : Int) ≤ (a15 : Int) := by omega
      have z2 : (0 : Int) ≤ (a2 : Int) := by omega
      have l15 : (a15 : Int) < (i : Int) := by omega
      have l2 : (a2 : Int) < (i : Int) := by omega
      have hi' : (i : Int) < 64 := by omega
      have HA16 := Lib.hid h16
      have HA7 := Lib.hid h7
      clear hl_ hs h15 h2 h16 h7
      go_upto_region 25 with fail
      go_cut [14] from 112 to 173 (fun v14 wd => v14 = .int .u32 (sig0 (rd l a15)) ∧ ∃ n, wd = wr.drewN n)
      case first =>
        go_quiet ((go_at_call 64; exact Calls.quiet_of (right_calls _ _ _ (by omega) (by omega))))
        go_wp2_with fail
        go_meet
        case rel => exact ⟨rfl, _, rfl⟩
      case rest =>
        obtain ⟨rfl, n1, rfl⟩ := hcut
        go_upto_region 26 with fail
        go_cut [15] from 112 to 173 (fun v15 wd => v15 = .int .u32 (sig1 (rd l a2)) ∧ ∃ n, wd = wr.drewN n)
        case first =>
          go_quiet ((go_at_call 64; exact quiet_add (right_calls _ _ _ (by omega) (by omega))))
          go_wp2_with fail
          go_meet
          case rel => exact ⟨rfl, n1 + nq, by simp⟩
        case rest =>
          obtain ⟨rfl, n2, rfl⟩ := hcut
          clear q15 q2 e15 e2 z15 z2 l15 l2
          go_upto_region 27 with fail
          refine regS27_walk (w.heap.size + 2) _ gw i cw a16 a7 l _ _ (by have := HA16.out; omega) (by have := HA7.out; omega) hi (own_drewN hW n2) (by have := hI.size; exact this) _ ?_
          intro x156 x157 x158 x159 x160 x161 x162 x163 x164 x165 x166 x167 x168 x169 x170 x171 x172 x173 A1 c1 w1 hown1 hgrow
          have hgw2 : w.heap.size + 2 ≤ gw := hgw
          have hI1 := (hI.drewN n2).grown hgrow (fun k hk => by obtain rfl := Option.some.inj hk; exact hgw2)
          have hm1 := World.ownsRow.kept (own_drewN hm n2) hgrow (own_type_ne hm hW (by decide))
          have hb1 := heap_grown hgrow (show (wr.drewN n2).heap[g9]? = _ from hb9) (own_blk_ne hW hb9 (by decide))
          rw [← HS.out] at hown1
          clear hgrow hI hm hb9 hW
          go_wp2
          go_roundw
          case rel => exact ⟨i + 1, A1, c1, by omega, by omega, by go_num, rfl, hown1, hI1, hm1, hb1⟩
          case measure => simp [intOf]; omega
    · obtain rfl : i = 64 := by omega
      go_wp2
      exact HE.out _ _ _ _ _ _ _ _ _ _ _ _ _ _ _ _ _ _ _ _ _ _ _ _ _ _ _ _ _ _ _ _ _ _ _ _ _ _ _ _ _ _ _ _ _ _ _ _ _ _ _ _ _ _ _ _ _ _ _ _ _ _ _ _ _ _ _ wr hW hI hm hb9
end Go.Proofs.YtjlkakggmfmfiaaDoor
