/- The reference's digest: the rounds of one block. -/
import Derived.Test.YtjlkakggmfmfiaaDoorRefInv
import Derived.Test.YtjlkakggmfmfiaaDoorRefReg
import Derived.Deep.CutBlock
set_option maxRecDepth 100000
set_option linter.unusedVariables false
namespace Go.Proofs.YtjlkakggmfmfiaaDoor
open Go Go.RowKit
noncomputable def refP10 : Code := ((Tryd.f24.body.bind (findB 10)).getD .skip)
set_option maxHeartbeats 4000000 in
theorem ref_p10 {u0 u1 u3 u4 u6 u7 u8 u12 u13 u14 u15 u25 u26 u27 u28 u29 u30 u31 u32 u33 u34 u35 u36 u37 u38 u39 u40 u41 u42 u43 u44 u45 u46 u47 u48 u49 u50 u51 u52 u53 u54 u55 u56 u57 u58 u59 u60 u61 u62 u63 u64 u65 u66 u67 u68 u69 u70 u71 u72 u73 u74 u75 u76 u77 u78 u79 u80 u81 u82 u83 u84 u85 u86 u87 u88 u89 u90 u91 u92 u93 u94 u95 u96 u97 u98 u99 u100 u101 u102 u103 u104 u105 u106 u107 u108 u109 u110 u111 u112 u113 u114 u115 u116 u117 u118 u119 u120 u121 u122 u123 u124 u125 u126 u127 u128 u129 u130 u131 u132 u133 u134 u135 u136 u137 u138 u139 u140 u141 u142 u143 u144 u145 u146 u147 u148 u149 u150 u151 u152 u153 u154 u155 u156 u157 u158 u159 u160 u161 u162 u163 u164 u165 u166 u167 u168 u169 u170 u171 u172 u173 u174 u175 u176 u177 u178 u179 u180 u181 u182 u183 u184 u185 u186 u187 u188 u189 u190 u191 u192 u193 u194 u195 u196 u197 u198 u199 u200 u201 u202 u203 u204 u205 u206 u207 u208 u209 u210 u211 u212 u213 u214 u215 u216 u217 u218 u219 u220 u221 u222 u223 u224 u225 u226 u227 u228 u229 u230 u231 u232 u233 u234 u235 u236 u237 u238 u239 u240 u241 u242 u243 u244 u245 u246 u247 u248 u249 u250 u251 u252 u253 u254 u255 u256 u257 u258 u259 u260 u261 u262 u263 u264 u265 u266 u267 u268 u269 u270 u271 u272 u273 u274 u275 u276 u277 u278 u279 u280 u281 u282 u283 u284 u285 u286 u287 u288 u289 u290 u291 u292 u293 u294 u295 u296 u297 u298 u299 u300 u301 u302 u303 u304 u305 u306 u307 u308 u309 u310 u311 u312 u313 u314 u315 u316 u317 : Value} (w wr : World) (gw cw gm cm N g9 at_ : Nat) (bs bk : List Int) (st : S8) (hok : st.Ok) (hI : RefInv w wr) (hm : wr.ownsRow (w.heap.size + 2) 5 1 (.slice (some ⟨gm, 0, none⟩) N cm) N (nums .u8 (pad bs))) (hb9 : wr.heap[g9]? = some (.cells st.cells 28)) (hW : wr.ownsRow (w.heap.size + 2) 27 1 (.slice (some ⟨gw, 0, none⟩) 64 cw) 64 (nums .u32 (schL bk 64))) (Q0 : Exit → Act → World → Prop)
    (hexit : ∀ x24 x25 x26 x190 x191 x192 x193 x194 x195 x196 x197 x198 x199 x200 x201 x202 x203 x204 x205 x206 x207 x208 x209 x210 x211 x212 x213 x214 x215 x216 x217 x218 x219 x220 x221 x222 x223 x224 x225 x226 x227 x228 x229 x230 x231 x232 x233 x234 x235 x236 x237 x238 x239 x240 x241 x242 x243 x244 x245 x246 x247 x248 x249 x250 x251 x252 x253 x254 w3, RefInv w w3 → w3.ownsRow (w.heap.size + 2) 5 1 (.slice (some ⟨gm, 0, none⟩) N cm) N (nums .u8 (pad bs)) → w3.heap[g9]? = some (.cells st.cells 28) → Q0 .normal ⟨#[u0, u1, .pointer (some ⟨w.heap.size, 0, none⟩), u3, u4, .slice (some ⟨gm, 0, none⟩) N cm, u6, u7, u8, .pointer (some ⟨g9, 0, none⟩), .int .i64 at_, .slice (some ⟨gw, 0, none⟩) 64 cw, u12, u13, u14, u15, .int .u32 (stN st bk 64).a, .int .u32 (stN st bk 64).b, .int .u32 (stN st bk 64).c, .int .u32 (stN st bk 64).d, .int .u32 (stN st bk 64).e, .int .u32 (stN st bk 64).f, .int .u32 (stN st bk 64).g, .int .u32 (stN st bk 64).h, x24, x25, x26, u27, u28, u29, u30, u31, u32, u33, u34, u35, u36, u37, u38, u39, u40, u41, u42, u43, u44, u45, u46, u47, u48, u49, u50, u51, u52, u53, u54, u55, u56, u57, u58, u59, u60, u61, u62, u63, u64, u65, u66, u67, u68, u69, u70, u71, u72, u73, u74, u75, u76, u77, u78, u79, u80, u81, u82, u83, u84, u85, u86, u87, u88, u89, u90, u91, u92, u93, u94, u95, u96, u97, u98, u99, u100, u101, u102, u103, u104, u105, u106, u107, u108, u109, u110, u111, u112, u113, u114, u115, u116, u117, u118, u119, u120, u121, u122, u123, u124, u125, u126, u127, u128, u129, u130, u131, u132, u133, u134, u135, u136, u137, u138, u139, u140, u141, u142, u143, u144, u145, u146, u147, u148, u149, u150, u151, u152, u153, u154, u155, u156, u157, u158, u159, u160, u161, u162, u163, u164, u165, u166, u167, u168, u169, u170, u171, u172, u173, u174, u175, u176, u177, u178, u179, u180, u181, u182, u183, u184, u185, u186, u187, u188, u189, x190, x191, x192, x193, x194, x195, x196, x197, x198, x199, x200, x201, x202, x203, x204, x205, x206, x207, x208, x209, x210, x211, x212, x213, x214, x215, x216, x217, x218, x219, x220, x221, x222, x223, x224, x225, x226, x227, x228, x229, x230, x231, x232, x233, x234, x235, x236, x237, x238, x239, x240, x241, x242, x243, x244, x245, x246, x247, x248, x249, x250, x251, x252, x253, x254, u255, u256, u257, u258, u259, u260, u261, u262, u263, u264, u265, u266, u267, u268, u269, u270, u271, u272, u273, u274, u275, u276, u277, u278, u279, u280, u281, u282, u283, u284, u285, u286, u287, u288, u289, u290, u291, u292, u293, u294, u295, u296, u297, u298, u299, u300, u301, u302, u303, u304, u305, u306, u307, u308, u309, u310, u311, u312, u313, u314, u315, u316, u317], []⟩ w3) :
    Code.wp Tryd.prog refP10 Q0 ⟨#[u0, u1, .pointer (some ⟨w.heap.size, 0, none⟩), u3, u4, .slice (some ⟨gm, 0, none⟩) N cm, u6, u7, u8, .pointer (some ⟨g9, 0, none⟩), .int .i64 at_, .slice (some ⟨gw, 0, none⟩) 64 cw, u12, u13, u14, u15, .int .u32 st.a, .int .u32 st.b, .int .u32 st.c, .int .u32 st.d, .int .u32 st.e, .int .u32 st.f, .int .u32 st.g, .int .u32 st.h, .int .i64 0, u25, u26, u27, u28, u29, u30, u31, u32, u33, u34, u35, u36, u37, u38, u39, u40, u41, u42, u43, u44, u45, u46, u47, u48, u49, u50, u51, u52, u53, u54, u55, u56, u57, u58, u59, u60, u61, u62, u63, u64, u65, u66, u67, u68, u69, u70, u71, u72, u73, u74, u75, u76, u77, u78, u79, u80, u81, u82, u83, u84, u85, u86, u87, u88, u89, u90, u91, u92, u93, u94, u95, u96, u97, u98, u99, u100, u101, u102, u103, u104, u105, u106, u107, u108, u109, u110, u111, u112, u113, u114, u115, u116, u117, u118, u119, u120, u121, u122, u123, u124, u125, u126, u127, u128, u129, u130, u131, u132, u133, u134, u135, u136, u137, u138, u139, u140, u141, u142, u143, u144, u145, u146, u147, u148, u149, u150, u151, u152, u153, u154, u155, u156, u157, u158, u159, u160, u161, u162, u163, u164, u165, u166, u167, u168, u169, u170, u171, u172, u173, u174, u175, u176, u177, u178, u179, u180, u181, u182, u183, u184, u185, u186, u187, u188, u189, u190, u191, u192, u193, u194, u195, u196, u197, u198, u199, u200, u201, u202, u203, u204, u205, u206, u207, u208, u209, u210, u211, u212, u213, u214, u215, u216, u217, u218, u219, u220, u221, u222, u223, u224, u225, u226, u227, u228, u229, u230, u231, u232, u233, u234, u235, u236, u237, u238, u239, u240, u241, u242, u243, u244, u245, u246, u247, u248, u249, u250, u251, u252, u253, u254, u255, u256, u257, u258, u259, u260, u261, u262, u263, u264, u265, u266, u267, u268, u269, u270, u271, u272, u273, u274, u275, u276, u277, u278, u279, u280, u281, u282, u283, u284, u285, u286, u287, u288, u289, u290, u291, u292, u293, u294, u295, u296, u297, u298, u299, u300, u301, u302, u303, u304, u305, u306, u307, u308, u309, u310, u311, u312, u313, u314, u315, u316, u317], []⟩ wr := by
  have HE := Lib.hid hexit
  clear hexit
  conv => arg 2; whnf
  go_wp2
  go_loopw [16, 17, 18, 19, 20, 21, 22, 23, 24] (fun va vb vc vd ve vf vg vh vi wr => ∃ (i : Nat) (q : S8), i ≤ 64 ∧ vi = .int .i64 i ∧ Hid (q = stN st bk i) ∧ va = .int .u32 q.a ∧ vb = .int .u32 q.b ∧ vc = .int .u32 q.c ∧ vd = .int .u32 q.d ∧ ve = .int .u32 q.e ∧ vf = .int .u32 q.f ∧ vg = .int .u32 q.g ∧ vh = .int .u32 q.h ∧ RefInv w wr ∧
    wr.ownsRow (w.heap.size + 2) 27 1 (.slice (some ⟨gw, 0, none⟩) 64 cw) 64 (nums .u32 (schL bk 64)) ∧ wr.ownsRow (w.heap.size + 2) 5 1 (.slice (some ⟨gm, 0, none⟩) N cm) N (nums .u8 (pad bs)) ∧ wr.heap[g9]? = some (.cells st.cells 28)) (fun _ _ _ _ _ _ _ _ v _ => (64 - intOf v).toNat)
  case atStart => exact ⟨0, st, by omega, rfl, Lib.hid rfl, rfl, rfl, rfl, rfl, rfl, rfl, rfl, rfl, hI, hW, hm, hb9⟩
  case round =>
    clear hI hW hm hb9
    obtain ⟨i, q, hi, rfl, hq, rfl, rfl, rfl, rfl, rfl, rfl, rfl, rfl, hI, hW, hm, hb9⟩ := hrel
    by_cases hi64 : i < 64
    · have hqok : q.Ok := by rw [hq.out]; exact stN_ok hok _ _
      have hqe := (S8.Ok.get hqok).2.2.2.2.1
      have hwc := own_cell hW i hi64
      rw [schL_at bk 64 i hi64] at hwc
      have hkc := blk_num hI.b0 (8 + i) (by show 8 + i < 72; omega)
      rw [show rd tabs72 (8 + i) = rd adds i from (rd_append_right first8.list adds (8 + i) (by show 8 ≤ 8 + i; omega)).trans (by rw [show 8 + i - first8.list.length = i by show 8 + i - 8 = i; omega])] at hkc
      have HQ := Lib.hid (show rnd q (rd adds i) (sch bk i) = stN st bk (i + 1) by rw [hq.out]; rfl)
      have hnf := notF_eq q.e hqe.1 hqe.2
      have HNF := Lib.hid hnf
      have l64 : (i : Int) < 64 := by omega
      clear hqok hnf
      go_upto_region 32 with fail
      go_cut [25] from 190 to 254 (fun v25 wd => v25 = .int .u32 (t1F q (rd adds i) (sch bk i)) ∧ ∃ n, wd = wr.drewN n)
      case first =>
        go_quiet ((go_at_call 64; exact Calls.quiet_of (right_calls _ _ _ (by omega) (by omega))))
        go_wp2_with fail
        go_meet
        case rel =>
          refine ⟨?_, _, rfl⟩
          simp only [t1F, big1, chF, HNF.out, M32]
          exact congrArg (Value.int .u32) (by omega)
      case rest =>
        obtain ⟨rfl, n1, rfl⟩ := hcut
        go_upto_region 33 with fail
        go_cut [26] from 190 to 254 (fun v26 wd => v26 = .int .u32 (t2F q) ∧ ∃ n, wd = wr.drewN n)
        case first =>
          go_wp2_with fail
          refine (right_calls _ _ _ (by omega) (by omega)).mono ?_
          rintro e w1 ⟨rfl, m1, rfl⟩
          go_wp2_with fail
          refine (right_calls _ _ _ (by omega) (by omega)).mono ?_
          rintro e w1 ⟨rfl, m2, rfl⟩
          go_wp2_with fail
          refine (right_calls _ _ _ (by omega) (by omega)).mono ?_
          rintro e w1 ⟨rfl, m3, rfl⟩
          go_wp2_with fail
          go_meet
          case rel =>
            refine ⟨?_, n1 + m1 + m2 + m3, by simp [Nat.add_assoc]⟩
            simp only [t2F, big0, majF, M32]
        case rest =>
          obtain ⟨rfl, n2, rfl⟩ := hcut
          clear hwc hkc
          have hz : rnd q (rd adds i) (sch bk i) = ⟨M32 (t1F q (rd adds i) (sch bk i) + t2F q), q.a, q.b, q.c, M32 (q.d + t1F q (rd adds i) (sch bk i)), q.e, q.f, q.g⟩ := rfl
          have HZ := Lib.hid hz
          clear hz
          obtain ⟨T1, hT1⟩ : ∃ T1, T1 = t1F q (rd adds i) (sch bk i) := ⟨_, rfl⟩
          obtain ⟨T2, hT2⟩ : ∃ T2, T2 = t2F q := ⟨_, rfl⟩
          rw [← hT1, ← hT2] at HZ
          rw [← hT1, ← hT2]
          clear hT1 hT2
          go_wp2
          go_roundw
          case rel =>
            exact ⟨i + 1, rnd q (rd adds i) (sch bk i), by omega, by go_num, HQ, by rw [HZ.out]; rfl, by rw [HZ.out], by rw [HZ.out], by rw [HZ.out], by rw [HZ.out]; rfl, by rw [HZ.out], by rw [HZ.out], by rw [HZ.out], hI.drewN n2, own_drewN hW n2, own_drewN hm n2, hb9⟩
          case measure => simp [intOf]; omega
    · obtain rfl : i = 64 := by omega
      have hqe := hq.out
      subst hqe
      go_wp2
      exact HE.out _ _ _ _ _ _ _ _ _ _ _ _ _ _ _ _ _ _ _ _ _ _ _ _ _ _ _ _ _ _ _ _ _ _ _ _ _ _ _ _ _ _ _ _ _ _ _ _ _ _ _ _ _ _ _ _ _ _ _ _ _ _ _ _ _ _ _ _ wr hI hm hb9
end Go.Proofs.YtjlkakggmfmfiaaDoor
