/- The reference's digest: one block of 64 bytes. -/
import Derived.Test.YtjlkakggmfmfiaaDoorRefP6
import Derived.Test.YtjlkakggmfmfiaaDoorRefP8
import Derived.Test.YtjlkakggmfmfiaaDoorRefP10
import Derived.Deep.CutBlock
set_option maxRecDepth 100000
set_option linter.unusedVariables false
namespace Go.Proofs.YtjlkakggmfmfiaaDoor
open Go Go.RowKit
noncomputable def refBlock : Code := ((Tryd.f24.body.bind (findB 5)).getD .skip)
set_option maxHeartbeats 1000000 in
theorem ref_block {u0 u1 u3 u4 u6 u7 u8 u11 u12 u13 u14 u15 u16 u17 u18 u19 u20 u21 u22 u23 u24 u25 u26 u27 u28 u29 u30 u31 u32 u33 u34 u35 u36 u37 u38 u39 u40 u41 u42 u43 u44 u45 u46 u47 u48 u49 u50 u51 u52 u53 u54 u55 u56 u57 u58 u59 u60 u61 u62 u63 u64 u65 u66 u67 u68 u69 u70 u71 u72 u73 u74 u75 u76 u77 u78 u79 u80 u81 u82 u83 u84 u85 u86 u87 u88 u89 u90 u91 u92 u93 u94 u95 u96 u97 u98 u99 u100 u101 u102 u103 u104 u105 u106 u107 u108 u109 u110 u111 u112 u113 u114 u115 u116 u117 u118 u119 u120 u121 u122 u123 u124 u125 u126 u127 u128 u129 u130 u131 u132 u133 u134 u135 u136 u137 u138 u139 u140 u141 u142 u143 u144 u145 u146 u147 u148 u149 u150 u151 u152 u153 u154 u155 u156 u157 u158 u159 u160 u161 u162 u163 u164 u165 u166 u167 u168 u169 u170 u171 u172 u173 u174 u175 u176 u177 u178 u179 u180 u181 u182 u183 u184 u185 u186 u187 u188 u189 u190 u191 u192 u193 u194 u195 u196 u197 u198 u199 u200 u201 u202 u203 u204 u205 u206 u207 u208 u209 u210 u211 u212 u213 u214 u215 u216 u217 u218 u219 u220 u221 u222 u223 u224 u225 u226 u227 u228 u229 u230 u231 u232 u233 u234 u235 u236 u237 u238 u239 u240 u241 u242 u243 u244 u245 u246 u247 u248 u249 u250 u251 u252 u253 u254 u255 u256 u257 u258 u259 u260 u261 u262 u263 u264 u265 u266 u267 u268 u269 u270 u271 u272 u273 u274 u275 u276 u277 u278 u279 u280 u281 u282 u283 u284 u285 u286 u287 u288 u289 u290 u291 u292 u293 u294 u295 u296 u297 u298 u299 u300 u301 u302 u303 u304 u305 u306 u307 u308 u309 u310 u311 u312 u313 u314 u315 u316 u317 : Value} (w wr : World) (gm cm N g9 at_ k : Nat) (bs bk : List Int) (st : S8) (hI : RefInv w wr) (hm : wr.ownsRow (w.heap.size + 2) 5 1 (.slice (some ⟨gm, 0, none⟩) N cm) N (nums .u8 (pad bs))) (hb9 : wr.heap[g9]? = some (.cells st.cells 28)) (hg : w.heap.size + 2 ≤ g9)
    (hNl : N ≤ 200000) (HA : Hid (at_ = 64 * k)) (hatl : at_ + 64 ≤ N) (hpb : Bytes (pad bs)) (hok : st.Ok) (HBK : Hid (bk = (pad bs).drop (64 * k))) (Q0 : Exit → Act → World → Prop)
    (hexit : ∀ x11 x12 x13 x14 x15 x16 x17 x18 x19 x20 x21 x22 x23 x24 x25 x26 x72 x73 x74 x75 x76 x77 x78 x79 x80 x81 x82 x83 x84 x85 x86 x87 x88 x89 x90 x91 x92 x93 x94 x95 x96 x97 x98 x99 x100 x101 x102 x103 x104 x105 x106 x107 x108 x109 x110 x111 x112 x113 x114 x115 x116 x117 x118 x119 x120 x121 x122 x123 x124 x125 x126 x127 x128 x129 x130 x131 x132 x133 x134 x135 x136 x137 x138 x139 x140 x141 x142 x143 x144 x145 x146 x147 x148 x149 x150 x151 x152 x153 x154 x155 x156 x157 x158 x159 x160 x161 x162 x163 x164 x165 x166 x167 x168 x169 x170 x171 x172 x173 x174 x175 x176 x177 x178 x179 x180 x181 x182 x183 x184 x185 x186 x187 x188 x189 x190 x191 x192 x193 x194 x195 x196 x197 x198 x199 x200 x201 x202 x203 x204 x205 x206 x207 x208 x209 x210 x211 x212 x213 x214 x215 x216 x217 x218 x219 x220 x221 x222 x223 x224 x225 x226 x227 x228 x229 x230 x231 x232 x233 x234 x235 x236 x237 x238 x239 x240 x241 x242 x243 x244 x245 x246 x247 x248 x249 x250 x251 x252 x253 x254 x255 x256 x257 x258 x259 x260 x261 x262 x263 x264 x265 x266 x267 x268 x269 x270 x271 x272 x273 x274 x275 x276 x277 x278 x279 x280 x281 x282 x283 x284 x285 x286 x287 x288 x289 x290 x291 x292 x293 x294 w3, RefInv w w3 → w3.ownsRow (w.heap.size + 2) 5 1 (.slice (some ⟨gm, 0, none⟩) N cm) N (nums .u8 (pad bs)) → w3.heap[g9]? = some (.cells (stepF st bk).cells 28) → Q0 .normal ⟨#[u0, u1, .pointer (some ⟨w.heap.size, 0, none⟩), u3, u4, .slice (some ⟨gm, 0, none⟩) N cm, u6, u7, u8, .pointer (some ⟨g9, 0, none⟩), .int .i64 at_, x11, x12, x13, x14, x15, x16, x17, x18, x19, x20, x21, x22, x23, x24, x25, x26, u27, u28, u29, u30, u31, u32, u33, u34, u35, u36, u37, u38, u39, u40, u41, u42, u43, u44, u45, u46, u47, u48, u49, u50, u51, u52, u53, u54, u55, u56, u57, u58, u59, u60, u61, u62, u63, u64, u65, u66, u67, u68, u69, u70, u71, x72, x73, x74, x75, x76, x77, x78, x79, x80, x81, x82, x83, x84, x85, x86, x87, x88, x89, x90, x91, x92, x93, x94, x95, x96, x97, x98, x99, x100, x101, x102, x103, x104, x105, x106, x107, x108, x109, x110, x111, x112, x113, x114, x115, x116, x117, x118, x119, x120, x121, x122, x123, x124, x125, x126, x127, x128, x129, x130, x131, x132, x133, x134, x135, x136, x137, x138, x139, x140, x141, x142, x143, x144, x145, x146, x147, x148, x149, x150, x151, x152, x153, x154, x155, x156, x157, x158, x159, x160, x161, x162, x163, x164, x165, x166, x167, x168, x169, x170, x171, x172, x173, x174, x175, x176, x177, x178, x179, x180, x181, x182, x183, x184, x185, x186, x187, x188, x189, x190, x191, x192, x193, x194, x195, x196, x197, x198, x199, x200, x201, x202, x203, x204, x205, x206, x207, x208, x209, x210, x211, x212, x213, x214, x215, x216, x217, x218, x219, x220, x221, x222, x223, x224, x225, x226, x227, x228, x229, x230, x231, x232, x233, x234, x235, x236, x237, x238, x239, x240, x241, x242, x243, x244, x245, x246, x247, x248, x249, x250, x251, x252, x253, x254, x255, x256, x257, x258, x259, x260, x261, x262, x263, x264, x265, x266, x267, x268, x269, x270, x271, x272, x273, x274, x275, x276, x277, x278, x279, x280, x281, x282, x283, x284, x285, x286, x287, x288, x289, x290, x291, x292, x293, x294, u295, u296, u297, u298, u299, u300, u301, u302, u303, u304, u305, u306, u307, u308, u309, u310, u311, u312, u313, u314, u315, u316, u317], []⟩ w3) :
    Code.wp Tryd.prog refBlock Q0 ⟨#[u0, u1, .pointer (some ⟨w.heap.size, 0, none⟩), u3, u4, .slice (some ⟨gm, 0, none⟩) N cm, u6, u7, u8, .pointer (some ⟨g9, 0, none⟩), .int .i64 at_, u11, u12, u13, u14, u15, u16, u17, u18, u19, u20, u21, u22, u23, u24, u25, u26, u27, u28, u29, u30, u31, u32, u33, u34, u35, u36, u37, u38, u39, u40, u41, u42, u43, u44, u45, u46, u47, u48, u49, u50, u51, u52, u53, u54, u55, u56, u57, u58, u59, u60, u61, u62, u63, u64, u65, u66, u67, u68, u69, u70, u71, u72, u73, u74, u75, u76, u77, u78, u79, u80, u81, u82, u83, u84, u85, u86, u87, u88, u89, u90, u91, u92, u93, u94, u95, u96, u97, u98, u99, u100, u101, u102, u103, u104, u105, u106, u107, u108, u109, u110, u111, u112, u113, u114, u115, u116, u117, u118, u119, u120, u121, u122, u123, u124, u125, u126, u127, u128, u129, u130, u131, u132, u133, u134, u135, u136, u137, u138, u139, u140, u141, u142, u143, u144, u145, u146, u147, u148, u149, u150, u151, u152, u153, u154, u155, u156, u157, u158, u159, u160, u161, u162, u163, u164, u165, u166, u167, u168, u169, u170, u171, u172, u173, u174, u175, u176, u177, u178, u179, u180, u181, u182, u183, u184, u185, u186, u187, u188, u189, u190, u191, u192, u193, u194, u195, u196, u197, u198, u199, u200, u201, u202, u203, u204, u205, u206, u207, u208, u209, u210, u211, u212, u213, u214, u215, u216, u217, u218, u219, u220, u221, u222, u223, u224, u225, u226, u227, u228, u229, u230, u231, u232, u233, u234, u235, u236, u237, u238, u239, u240, u241, u242, u243, u244, u245, u246, u247, u248, u249, u250, u251, u252, u253, u254, u255, u256, u257, u258, u259, u260, u261, u262, u263, u264, u265, u266, u267, u268, u269, u270, u271, u272, u273, u274, u275, u276, u277, u278, u279, u280, u281, u282, u283, u284, u285, u286, u287, u288, u289, u290, u291, u292, u293, u294, u295, u296, u297, u298, u299, u300, u301, u302, u303, u304, u305, u306, u307, u308, u309, u310, u311, u312, u313, u314, u315, u316, u317], []⟩ wr := by
  have HE := Lib.hid hexit
  clear hexit
  have hW0 : (wr.alloc (.cells #[] 27)).ownsRow (w.heap.size + 2) 27 1 (.slice (some ⟨wr.heap.size, 0, none⟩) 0 0) 0 (nums .u32 []) := own_new [] hI.size (by decide)
  have hI6 := hI.alloc (.cells #[] 27)
  have hm6 := hm.alloc (.cells #[] 27)
  have hb6 := blk_alloc hb9 (.cells #[] 27)
  clear hI hm hb9
  conv => arg 2; whnf
  go_upto_block 6 with fail
  refine ref_p6 w (wr.alloc (.cells #[] 27)) (some ⟨wr.heap.size, 0, none⟩) 0 gm cm N g9 at_ k bs bk st hI6 hm6 hb6 hW0 hNl HA hatl hpb HBK _ ?_
  clear hI6 hm6 hb6 hW0
  intro x12 x74 x75 x76 x77 x78 x79 x80 x81 x82 x83 x84 x85 x86 x87 x88 x89 x90 x91 x92 x93 x94 x95 x96 x97 x98 x99 x100 x101 x102 x103 x104 x105 x106 x107 x108 x109 x110 x111 A1 c1 w1 hW hI hm hb9
  go_upto_block 8 with fail
  refine ref_p8 w w1 A1 c1 gm cm N g9 at_ bs bk st hI hm hb9 hW _ ?_
  clear hI hm hb9 hW
  intro x13 x14 x15 x112 x113 x114 x115 x116 x117 x118 x119 x120 x121 x122 x123 x124 x125 x126 x127 x128 x129 x130 x131 x132 x133 x134 x135 x136 x137 x138 x139 x140 x141 x142 x143 x144 x145 x146 x147 x148 x149 x150 x151 x152 x153 x154 x155 x156 x157 x158 x159 x160 x161 x162 x163 x164 x165 x166 x167 x168 x169 x170 x171 x172 x173 A2 c2 w2 hW hI hm hb9
  obtain ⟨gw, capw, hvw, hgw, _⟩ := hW.form (by omega)
  obtain ⟨rfl, _, rfl⟩ := Value.slice.inj hvw
  clear hvw
  have k0 : w2.cell? ⟨g9, 0, none⟩ = some (.int .u32 st.a) := blk_cell hb9 rfl
  have k1 : w2.cell? ⟨g9, 1, none⟩ = some (.int .u32 st.b) := blk_cell hb9 rfl
  have k2 : w2.cell? ⟨g9, 2, none⟩ = some (.int .u32 st.c) := blk_cell hb9 rfl
  have k3 : w2.cell? ⟨g9, 3, none⟩ = some (.int .u32 st.d) := blk_cell hb9 rfl
  have k4 : w2.cell? ⟨g9, 4, none⟩ = some (.int .u32 st.e) := blk_cell hb9 rfl
  have k5 : w2.cell? ⟨g9, 5, none⟩ = some (.int .u32 st.f) := blk_cell hb9 rfl
  have k6 : w2.cell? ⟨g9, 6, none⟩ = some (.int .u32 st.g) := blk_cell hb9 rfl
  have k7 : w2.cell? ⟨g9, 7, none⟩ = some (.int .u32 st.h) := blk_cell hb9 rfl
  go_upto_region 28 with fail
  go_quiet (fail)
  clear k0 k1 k2 k3 k4 k5 k6 k7
  go_upto_block 10 with fail
  refine ref_p10 w (w2.drewN nq) gw c2 gm cm N g9 at_ bs bk st hok (hI.drewN nq) (own_drewN hm nq) hb9 (own_drewN hW nq) _ ?_
  clear hI hm hb9 hW
  intro x24 x25 x26 x190 x191 x192 x193 x194 x195 x196 x197 x198 x199 x200 x201 x202 x203 x204 x205 x206 x207 x208 x209 x210 x211 x212 x213 x214 x215 x216 x217 x218 x219 x220 x221 x222 x223 x224 x225 x226 x227 x228 x229 x230 x231 x232 x233 x234 x235 x236 x237 x238 x239 x240 x241 x242 x243 x244 x245 x246 x247 x248 x249 x250 x251 x252 x253 x254 w3 hI hm hb9
  obtain ⟨q, hq⟩ : ∃ q, q = stN st bk 64 := ⟨_, rfl⟩
  have hst : stepF st bk = add8 st q := by rw [hq]; rfl
  rw [hst] at HE
  rw [← hq]
  clear hst hq
  have k0 : w3.cell? ⟨g9, 0, none⟩ = some (.int .u32 st.a) := blk_cell hb9 rfl
  have k1 : w3.cell? ⟨g9, 1, none⟩ = some (.int .u32 st.b) := blk_cell hb9 rfl
  have k2 : w3.cell? ⟨g9, 2, none⟩ = some (.int .u32 st.c) := blk_cell hb9 rfl
  have k3 : w3.cell? ⟨g9, 3, none⟩ = some (.int .u32 st.d) := blk_cell hb9 rfl
  have k4 : w3.cell? ⟨g9, 4, none⟩ = some (.int .u32 st.e) := blk_cell hb9 rfl
  have k5 : w3.cell? ⟨g9, 5, none⟩ = some (.int .u32 st.f) := blk_cell hb9 rfl
  have k6 : w3.cell? ⟨g9, 6, none⟩ = some (.int .u32 st.g) := blk_cell hb9 rfl
  have k7 : w3.cell? ⟨g9, 7, none⟩ = some (.int .u32 st.h) := blk_cell hb9 rfl
  have f0 : w3.frozen? ⟨g9, 0, none⟩ = false := blk_frozen hb9 0
  have f1 : w3.frozen? ⟨g9, 1, none⟩ = false := blk_frozen hb9 1
  have f2 : w3.frozen? ⟨g9, 2, none⟩ = false := blk_frozen hb9 2
  have f3 : w3.frozen? ⟨g9, 3, none⟩ = false := blk_frozen hb9 3
  have f4 : w3.frozen? ⟨g9, 4, none⟩ = false := blk_frozen hb9 4
  have f5 : w3.frozen? ⟨g9, 5, none⟩ = false := blk_frozen hb9 5
  have f6 : w3.frozen? ⟨g9, 6, none⟩ = false := blk_frozen hb9 6
  have f7 : w3.frozen? ⟨g9, 7, none⟩ = false := blk_frozen hb9 7
  go_wp2
  have ht := turned8 w3 g9 (.int .u32 (M32 (st.a + q.a))) (.int .u32 (M32 (st.b + q.b))) (.int .u32 (M32 (st.c + q.c))) (.int .u32 (M32 (st.d + q.d))) (.int .u32 (M32 (st.e + q.e))) (.int .u32 (M32 (st.f + q.f))) (.int .u32 (M32 (st.g + q.g))) (.int .u32 (M32 (st.h + q.h)))
  have hc := cells8 hb9 (.int .u32 (M32 (st.a + q.a))) (.int .u32 (M32 (st.b + q.b))) (.int .u32 (M32 (st.c + q.c))) (.int .u32 (M32 (st.d + q.d))) (.int .u32 (M32 (st.e + q.e))) (.int .u32 (M32 (st.f + q.f))) (.int .u32 (M32 (st.g + q.g))) (.int .u32 (M32 (st.h + q.h)))
  refine HE.out _ _ _ _ _ _ _ _ _ _ _ _ _ _ _ _ _ _ _ _ _ _ _ _ _ _ _ _ _ _ _ _ _ _ _ _ _ _ _ _ _ _ _ _ _ _ _ _ _ _ _ _ _ _ _ _ _ _ _ _ _ _ _ _ _ _ _ _ _ _ _ _ _ _ _ _ _ _ _ _ _ _ _ _ _ _ _ _ _ _ _ _ _ _ _ _ _ _ _ _ _ _ _ _ _ _ _ _ _ _ _ _ _ _ _ _ _ _ _ _ _ _ _ _ _ _ _ _ _ _ _ _ _ _ _ _ _ _ _ _ _ _ _ _ _ _ _ _ _ _ _ _ _ _ _ _ _ _ _ _ _ _ _ _ _ _ _ _ _ _ _ _ _ _ _ _ _ _ _ _ _ _ _ _ _ _ _ _ _ _ _ _ _ _ _ _ _ _ _ _ _ _ _ _ _ _ _ _ _ _ _ _ _ _ _ _ _ _ _ _ _ _ _ _ _ _ _ _ _ _ _ _ _ _ _ _ _ _ _ _ ?_ ?_ ?_
  · exact hI.turned ht hg
  · exact World.ownsRow.kept hm ht.grown (.inr (fun e => own_blk_ne hm hb9 (by decide) e.symm))
  · exact hc
end Go.Proofs.YtjlkakggmfmfiaaDoor
