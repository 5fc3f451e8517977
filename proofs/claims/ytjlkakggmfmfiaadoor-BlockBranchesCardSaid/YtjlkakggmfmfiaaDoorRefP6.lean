/- The reference's digest: the loop that makes the first numbers of the schedule. -/
import Derived.Test.YtjlkakggmfmfiaaDoorRefInv
import Derived.Test.YtjlkakggmfmfiaaDoorRefReg
import Derived.Deep.CutBlock
set_option maxRecDepth 100000
set_option linter.unusedVariables false
namespace Go.Proofs.YtjlkakggmfmfiaaDoor
open Go Go.RowKit
noncomputable def refP6 : Code := ((Tryd.f24.body.bind (findB 6)).getD .skip)
set_option maxHeartbeats 4000000 in
theorem ref_p6 {u0 u1 u3 u4 u6 u7 u8 u13 u14 u15 u16 u17 u18 u19 u20 u21 u22 u23 u24 u25 u26 u27 u28 u29 u30 u31 u32 u33 u34 u35 u36 u37 u38 u39 u40 u41 u42 u43 u44 u45 u46 u47 u48 u49 u50 u51 u52 u53 u54 u55 u56 u57 u58 u59 u60 u61 u62 u63 u64 u65 u66 u67 u68 u69 u70 u71 u72 u73 u74 u75 u76 u77 u78 u79 u80 u81 u82 u83 u84 u85 u86 u87 u88 u89 u90 u91 u92 u93 u94 u95 u96 u97 u98 u99 u100 u101 u102 u103 u104 u105 u106 u107 u108 u109 u110 u111 u112 u113 u114 u115 u116 u117 u118 u119 u120 u121 u122 u123 u124 u125 u126 u127 u128 u129 u130 u131 u132 u133 u134 u135 u136 u137 u138 u139 u140 u141 u142 u143 u144 u145 u146 u147 u148 u149 u150 u151 u152 u153 u154 u155 u156 u157 u158 u159 u160 u161 u162 u163 u164 u165 u166 u167 u168 u169 u170 u171 u172 u173 u174 u175 u176 u177 u178 u179 u180 u181 u182 u183 u184 u185 u186 u187 u188 u189 u190 u191 u192 u193 u194 u195 u196 u197 u198 u199 u200 u201 u202 u203 u204 u205 u206 u207 u208 u209 u210 u211 u212 u213 u214 u215 u216 u217 u218 u219 u220 u221 u222 u223 u224 u225 u226 u227 u228 u229 u230 u231 u232 u233 u234 u235 u236 u237 u238 u239 u240 u241 u242 u243 u244 u245 u246 u247 u248 u249 u250 u251 u252 u253 u254 u255 u256 u257 u258 u259 u260 u261 u262 u263 u264 u265 u266 u267 u268 u269 u270 u271 u272 u273 u274 u275 u276 u277 u278 u279 u280 u281 u282 u283 u284 u285 u286 u287 u288 u289 u290 u291 u292 u293 u294 u295 u296 u297 u298 u299 u300 u301 u302 u303 u304 u305 u306 u307 u308 u309 u310 u311 u312 u313 u314 u315 u316 u317 : Value} (w wr : World) (A0 : Option Addr) (c0 gm cm N g9 at_ k : Nat) (bs bk : List Int) (st : S8) (hI : RefInv w wr) (hm : wr.ownsRow (w.heap.size + 2) 5 1 (.slice (some ⟨gm, 0, none⟩) N cm) N (nums .u8 (pad bs))) (hb9 : wr.heap[g9]? = some (.cells st.cells 28)) (hW : wr.ownsRow (w.heap.size + 2) 27 1 (.slice A0 0 c0) 0 (nums .u32 []))
    (hNl : N ≤ 200000) (HA : Hid (at_ = 64 * k)) (hatl : at_ + 64 ≤ N) (hpb : Bytes (pad bs)) (HBK : Hid (bk = (pad bs).drop (64 * k))) (Q0 : Exit → Act → World → Prop)
    (hexit : ∀ x12 x74 x75 x76 x77 x78 x79 x80 x81 x82 x83 x84 x85 x86 x87 x88 x89 x90 x91 x92 x93 x94 x95 x96 x97 x98 x99 x100 x101 x102 x103 x104 x105 x106 x107 x108 x109 x110 x111 A1 c1 w3, w3.ownsRow (w.heap.size + 2) 27 1 (.slice A1 16 c1) 16 (nums .u32 (schL bk 16)) → RefInv w w3 → w3.ownsRow (w.heap.size + 2) 5 1 (.slice (some ⟨gm, 0, none⟩) N cm) N (nums .u8 (pad bs)) → w3.heap[g9]? = some (.cells st.cells 28) → Q0 .normal ⟨#[u0, u1, .pointer (some ⟨w.heap.size, 0, none⟩), u3, u4, .slice (some ⟨gm, 0, none⟩) N cm, u6, u7, u8, .pointer (some ⟨g9, 0, none⟩), .int .i64 at_, .slice A1 16 c1, x12, u13, u14, u15, u16, u17, u18, u19, u20, u21, u22, u23, u24, u25, u26, u27, u28, u29, u30, u31, u32, u33, u34, u35, u36, u37, u38, u39, u40, u41, u42, u43, u44, u45, u46, u47, u48, u49, u50, u51, u52, u53, u54, u55, u56, u57, u58, u59, u60, u61, u62, u63, u64, u65, u66, u67, u68, u69, u70, u71, u72, u73, x74, x75, x76, x77, x78, x79, x80, x81, x82, x83, x84, x85, x86, x87, x88, x89, x90, x91, x92, x93, x94, x95, x96, x97, x98, x99, x100, x101, x102, x103, x104, x105, x106, x107, x108, x109, x110, x111, u112, u113, u114, u115, u116, u117, u118, u119, u120, u121, u122, u123, u124, u125, u126, u127, u128, u129, u130, u131, u132, u133, u134, u135, u136, u137, u138, u139, u140, u141, u142, u143, u144, u145, u146, u147, u148, u149, u150, u151, u152, u153, u154, u155, u156, u157, u158, u159, u160, u161, u162, u163, u164, u165, u166, u167, u168, u169, u170, u171, u172, u173, u174, u175, u176, u177, u178, u179, u180, u181, u182, u183, u184, u185, u186, u187, u188, u189, u190, u191, u192, u193, u194, u195, u196, u197, u198, u199, u200, u201, u202, u203, u204, u205, u206, u207, u208, u209, u210, u211, u212, u213, u214, u215, u216, u217, u218, u219, u220, u221, u222, u223, u224, u225, u226, u227, u228, u229, u230, u231, u232, u233, u234, u235, u236, u237, u238, u239, u240, u241, u242, u243, u244, u245, u246, u247, u248, u249, u250, u251, u252, u253, u254, u255, u256, u257, u258, u259, u260, u261, u262, u263, u264, u265, u266, u267, u268, u269, u270, u271, u272, u273, u274, u275, u276, u277, u278, u279, u280, u281, u282, u283, u284, u285, u286, u287, u288, u289, u290, u291, u292, u293, u294, u295, u296, u297, u298, u299, u300, u301, u302, u303, u304, u305, u306, u307, u308, u309, u310, u311, u312, u313, u314, u315, u316, u317], []⟩ w3) :
    Code.wp Tryd.prog refP6 Q0 ⟨#[u0, u1, .pointer (some ⟨w.heap.size, 0, none⟩), u3, u4, .slice (some ⟨gm, 0, none⟩) N cm, u6, u7, u8, .pointer (some ⟨g9, 0, none⟩), .int .i64 at_, .slice A0 0 c0, .int .i64 at_, u13, u14, u15, u16, u17, u18, u19, u20, u21, u22, u23, u24, u25, u26, u27, u28, u29, u30, u31, u32, u33, u34, u35, u36, u37, u38, u39, u40, u41, u42, u43, u44, u45, u46, u47, u48, u49, u50, u51, u52, u53, u54, u55, u56, u57, u58, u59, u60, u61, u62, u63, u64, u65, u66, u67, u68, u69, u70, u71, u72, u73, u74, u75, u76, u77, u78, u79, u80, u81, u82, u83, u84, u85, u86, u87, u88, u89, u90, u91, u92, u93, u94, u95, u96, u97, u98, u99, u100, u101, u102, u103, u104, u105, u106, u107, u108, u109, u110, u111, u112, u113, u114, u115, u116, u117, u118, u119, u120, u121, u122, u123, u124, u125, u126, u127, u128, u129, u130, u131, u132, u133, u134, u135, u136, u137, u138, u139, u140, u141, u142, u143, u144, u145, u146, u147, u148, u149, u150, u151, u152, u153, u154, u155, u156, u157, u158, u159, u160, u161, u162, u163, u164, u165, u166, u167, u168, u169, u170, u171, u172, u173, u174, u175, u176, u177, u178, u179, u180, u181, u182, u183, u184, u185, u186, u187, u188, u189, u190, u191, u192, u193, u194, u195, u196, u197, u198, u199, u200, u201, u202, u203, u204, u205, u206, u207, u208, u209, u210, u211, u212, u213, u214, u215, u216, u217, u218, u219, u220, u221, u222, u223, u224, u225, u226, u227, u228, u229, u230, u231, u232, u233, u234, u235, u236, u237, u238, u239, u240, u241, u242, u243, u244, u245, u246, u247, u248, u249, u250, u251, u252, u253, u254, u255, u256, u257, u258, u259, u260, u261, u262, u263, u264, u265, u266, u267, u268, u269, u270, u271, u272, u273, u274, u275, u276, u277, u278, u279, u280, u281, u282, u283, u284, u285, u286, u287, u288, u289, u290, u291, u292, u293, u294, u295, u296, u297, u298, u299, u300, u301, u302, u303, u304, u305, u306, u307, u308, u309, u310, u311, u312, u313, u314, u315, u316, u317], []⟩ wr := by
  have HE := Lib.hid hexit
  clear hexit
  have hI6 := hI
  have hm6 := hm
  have hb6 := hb9
  have hW0 := hW
  clear hI hm hb9 hW
  conv => arg 2; whnf
  go_wp2
  go_loopw [11, 12] (fun v11 v12 wr => ∃ (j p : Nat) (Aw : Option Addr) (cw : Nat), j ≤ 16 ∧ Hid (p = at_ + 4 * j) ∧ v12 = .int .i64 p ∧ v11 = .slice Aw j cw ∧ wr.ownsRow (w.heap.size + 2) 27 1 v11 j (nums .u32 (schL bk j)) ∧ RefInv w wr ∧
    wr.ownsRow (w.heap.size + 2) 5 1 (.slice (some ⟨gm, 0, none⟩) N cm) N (nums .u8 (pad bs)) ∧ wr.heap[g9]? = some (.cells st.cells 28)) (fun _ v12 _ => (at_ + 64 - intOf v12).toNat)
  case atStart => exact ⟨0, at_, _, _, by omega, Lib.hid rfl, rfl, rfl, hW0, hI6, hm6, hb6⟩
  case round =>
    clear hI6 hm6 hb6 hW0
    obtain ⟨j, p, Aw, cw, hj, hp, rfl, rfl, hW, hI, hm, hb9⟩ := hrel
    have hpj := hp.out
    by_cases hj16 : j < 16
    · have q0 := own_cell hm p (by omega)
      have q1 := own_cell hm (p + 1) (by omega)
      have q2 := own_cell hm (p + 2) (by omega)
      have q3 := own_cell hm (p + 3) (by omega)
      have r0 := hpb.rd p
      have r1 := hpb.rd (p + 1)
      have r2 := hpb.rd (p + 2)
      have r3 := hpb.rd (p + 3)
      have hword : word bk j = rd (pad bs) p * 16777216 + rd (pad bs) (p + 1) * 65536 + rd (pad bs) (p + 2) * 256 + rd (pad bs) (p + 3) := by
        unfold word
        rw [HBK.out, rd_drop, rd_drop, rd_drop, rd_drop, ← HA.out, hpj]
        rfl
      have hs : schL bk (j + 1) = schL bk j ++ [word bk j] := by simp [schL, nextW, hj16]
      have HWd := Lib.hid hword
      have HS := Lib.hid hs
      clear hword hs
      have l0 : (p : Int) < (N : Int) := by omega
      have l1 : (p : Int) + 1 < (N : Int) := by omega
      have l2 : (p : Int) + 2 < (N : Int) := by omega
      have l3 : (p : Int) + 3 < (N : Int) := by omega
      have z0 : 0 ≤ (p : Int) := by omega
      have z1 : 0 ≤ (p : Int) + 1 := by omega
      have z2 : 0 ≤ (p : Int) + 2 := by omega
      have z3 : 0 ≤ (p : Int) + 3 := by omega
      have t1 : ((p : Int) + 1).toNat = p + 1 := by omega
      have t2 : ((p : Int) + 2).toNat = p + 2 := by omega
      have t3 : ((p : Int) + 3).toNat = p + 3 := by omega
      have e1 : IntKind.i64.wrap ((p : Int) + 1) = (p : Int) + 1 := IntWalk.i64_in _ (by omega)
      have e2 : IntKind.i64.wrap ((p : Int) + 2) = (p : Int) + 2 := IntWalk.i64_in _ (by omega)
      have e3 : IntKind.i64.wrap ((p : Int) + 3) = (p : Int) + 3 := IntWalk.i64_in _ (by omega)
      have l4 : (p : Int) < (at_ : Int) + 64 := by omega
      clear hpj
      go_upto_region 21 with fail
      have hne : some gm ≠ (Value.slice Aw j cw).ownBlock := (own_type_ne hm hW (by decide)).resolve_left (by simp [Value.ownBlock])
      go_region_held3 (fun w' => w'.cell? ⟨gm, p, none⟩ = some (.int .u8 (rd (pad bs) p)) ∧ w'.cell? ⟨gm, p + 1, none⟩ = some (.int .u8 (rd (pad bs) (p + 1))) ∧ w'.cell? ⟨gm, p + 2, none⟩ = some (.int .u8 (rd (pad bs) (p + 2))) ∧ w'.cell? ⟨gm, p + 3, none⟩ = some (.int .u8 (rd (pad bs) (p + 3))))
        (first | (refine ⟨?_, ?_, ?_, ?_⟩ <;> first | go_keep | (refine hgrow.cell ?_ hne; first | assumption | go_keep)))
        ((refine step_app _ (by rfl) _ _ _ (by rfl) (w.heap.size + 2) 27 _ 4 Tryd.underlying57 info32 rfl _ j (nums .u32 (schL bk j)) (by rfl) ((hW.alloc _).drew) _ 1 1 [.int .u32 _] (by rfl) (Rd.of_block0 (heap_alloc_new _ _)) (by simp [Value.oneCell']) (by simp only [maxLen]; omega) (by omega) (by have := hI.size; simp; omega) ?_; intro A1 c1 w1 hown1 hgrow hat))
      all_goals
        clear q0 q1 q2 q3 l0 l1 l2 l3 z0 z1 z2 z3 t1 t2 t3 e1 e2 e3
        go_wp2
        go_roundw
        case rel =>
          refine ⟨j + 1, p + 4, A1, c1, by omega, Lib.hid (by have := hp.out; omega), by go_num, rfl, own_cast hown1 (by rw [HS.out, HWd.out, nums_append]; congr 1; show [Value.int .u32 _] = [Value.int .u32 _]; congr 2; simp only [u32_wrap]; omega), ((hI.alloc _).drewN 1).app ((hW.alloc _).drew) hgrow, ((hm.alloc _).drew).kept hgrow (own_type_ne hm hW (by decide)), heap_grown hgrow (blk_alloc hb9 _) (own_blk_ne hW hb9 (by decide))⟩
        case measure => simp [intOf]; omega
    · obtain rfl : j = 16 := by omega
      have hx16 : ¬ (p : Int) < (at_ : Int) + 64 := by omega
      clear hpj hp hj hj16
      go_wp2
      exact HE.out _ _ _ _ _ _ _ _ _ _ _ _ _ _ _ _ _ _ _ _ _ _ _ _ _ _ _ _ _ _ _ _ _ _ _ _ _ _ _ Aw cw wr hW hI hm hb9
end Go.Proofs.YtjlkakggmfmfiaaDoor
