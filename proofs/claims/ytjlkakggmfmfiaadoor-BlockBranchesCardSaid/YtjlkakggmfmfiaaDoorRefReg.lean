/- The reference's digest: the region that appends a number of the schedule. -/
import Derived.Test.YtjlkakggmfmfiaaDoorChecked
import Derived.Test.YtjlkakggmfmfiaaDoorAppN
import Derived.Test.YtjlkakggmfmfiaaDoorMore2
import Derived.Test.YtjlkakggmfmfiaaDoorRefPure
import Derived.Deep.RegionHeld3
set_option maxRecDepth 100000
set_option linter.unusedVariables false
namespace Go.Proofs.YtjlkakggmfmfiaaDoor
open Go Go.RowKit
noncomputable def regS27 : Code := ((Tryd.f24.body.bind (findR 27)).getD .skip)
theorem infoR32 : (Tryd.prog.info? 27).map (fun i => (i.zero, i.size, i.bytes)) = some (some (.int .u32 0), 1, 4) := by kernel_rfl
theorem own_cellR {w : World} {base n c g : Nat} {e : TypeId} {k : IntKind} {xs : List Int} (h : w.ownsRow base e 1 (.slice (some ⟨g, 0, none⟩) n c) n (nums k xs)) (i : Nat) (hi : i < n) : w.cell? ⟨g, i, none⟩ = some (.int k (rd xs i)) := by
  have hl : xs.length = n := by have := h.1; rwa [nums_length, Nat.mul_one] at this
  have := h.cells (g := g) rfl i _ (nums_get k xs i (by omega))
  rwa [add_plain] at this
set_option maxHeartbeats 2000000 in
theorem regS27_walk {u0 u1 u2 u3 u4 u5 u6 u7 u8 u9 u10 u12 u16 u17 u18 u19 u20 u21 u22 u23 u24 u25 u26 u27 u28 u29 u30 u31 u32 u33 u34 u35 u36 u37 u38 u39 u40 u41 u42 u43 u44 u45 u46 u47 u48 u49 u50 u51 u52 u53 u54 u55 u56 u57 u58 u59 u60 u61 u62 u63 u64 u65 u66 u67 u68 u69 u70 u71 u72 u73 u74 u75 u76 u77 u78 u79 u80 u81 u82 u83 u84 u85 u86 u87 u88 u89 u90 u91 u92 u93 u94 u95 u96 u97 u98 u99 u100 u101 u102 u103 u104 u105 u106 u107 u108 u109 u110 u111 u112 u113 u114 u115 u116 u117 u118 u119 u120 u121 u122 u123 u124 u125 u126 u127 u128 u129 u130 u131 u132 u133 u134 u135 u136 u137 u138 u139 u140 u141 u142 u143 u144 u145 u146 u147 u148 u149 u150 u151 u152 u153 u154 u155 u156 u157 u158 u159 u160 u161 u162 u163 u164 u165 u166 u167 u168 u169 u170 u171 u172 u173 u174 u175 u176 u177 u178 u179 u180 u181 u182 u183 u184 u185 u186 u187 u188 u189 u190 u191 u192 u193 u194 u195 u196 u197 u198 u199 u200 u201 u202 u203 u204 u205 u206 u207 u208 u209 u210 u211 u212 u213 u214 u215 u216 u217 u218 u219 u220 u221 u222 u223 u224 u225 u226 u227 u228 u229 u230 u231 u232 u233 u234 u235 u236 u237 u238 u239 u240 u241 u242 u243 u244 u245 u246 u247 u248 u249 u250 u251 u252 u253 u254 u255 u256 u257 u258 u259 u260 u261 u262 u263 u264 u265 u266 u267 u268 u269 u270 u271 u272 u273 u274 u275 u276 u277 u278 u279 u280 u281 u282 u283 u284 u285 u286 u287 u288 u289 u290 u291 u292 u293 u294 u295 u296 u297 u298 u299 u300 u301 u302 u303 u304 u305 u306 u307 u308 u309 u310 u311 u312 u313 u314 u315 u316 u317 : Value} (B : Nat) (wo : World) (gw i cw a16 a7 : Nat) (l : List Int) (p q : Int) (h16 : i = a16 + 16) (h7 : i = a7 + 7) (hi : i < 64) (hW : wo.ownsRow B 27 1 (.slice (some ⟨gw, 0, none⟩) i cw) i (nums .u32 l)) (hB : B ≤ wo.heap.size) (Q0 : Exit → Act → World → Prop)
    (hexit : ∀ x156 x157 x158 x159 x160 x161 x162 x163 x164 x165 x166 x167 x168 x169 x170 x171 x172 x173 A3 c3 w3, w3.ownsRow B 27 1 (.slice A3 (i + 1) c3) (i + 1) (nums .u32 (l ++ [M32 (rd l a16 + (p + rd l a7 + q))])) → wo.grownBy w3 (some gw) → Q0 .normal ⟨#[u0, u1, u2, u3, u4, u5, u6, u7, u8, u9, u10, .slice A3 (i + 1) c3, u12, .int .i64 i, .int .u32 p, .int .u32 q, u16, u17, u18, u19, u20, u21, u22, u23, u24, u25, u26, u27, u28, u29, u30, u31, u32, u33, u34, u35, u36, u37, u38, u39, u40, u41, u42, u43, u44, u45, u46, u47, u48, u49, u50, u51, u52, u53, u54, u55, u56, u57, u58, u59, u60, u61, u62, u63, u64, u65, u66, u67, u68, u69, u70, u71, u72, u73, u74, u75, u76, u77, u78, u79, u80, u81, u82, u83, u84, u85, u86, u87, u88, u89, u90, u91, u92, u93, u94, u95, u96, u97, u98, u99, u100, u101, u102, u103, u104, u105, u106, u107, u108, u109, u110, u111, u112, u113, u114, u115, u116, u117, u118, u119, u120, u121, u122, u123, u124, u125, u126, u127, u128, u129, u130, u131, u132, u133, u134, u135, u136, u137, u138, u139, u140, u141, u142, u143, u144, u145, u146, u147, u148, u149, u150, u151, u152, u153, u154, u155, x156, x157, x158, x159, x160, x161, x162, x163, x164, x165, x166, x167, x168, x169, x170, x171, x172, x173, u174, u175, u176, u177, u178, u179, u180, u181, u182, u183, u184, u185, u186, u187, u188, u189, u190, u191, u192, u193, u194, u195, u196, u197, u198, u199, u200, u201, u202, u203, u204, u205, u206, u207, u208, u209, u210, u211, u212, u213, u214, u215, u216, u217, u218, u219, u220, u221, u222, u223, u224, u225, u226, u227, u228, u229, u230, u231, u232, u233, u234, u235, u236, u237, u238, u239, u240, u241, u242, u243, u244, u245, u246, u247, u248, u249, u250, u251, u252, u253, u254, u255, u256, u257, u258, u259, u260, u261, u262, u263, u264, u265, u266, u267, u268, u269, u270, u271, u272, u273, u274, u275, u276, u277, u278, u279, u280, u281, u282, u283, u284, u285, u286, u287, u288, u289, u290, u291, u292, u293, u294, u295, u296, u297, u298, u299, u300, u301, u302, u303, u304, u305, u306, u307, u308, u309, u310, u311, u312, u313, u314, u315, u316, u317], []⟩ w3) :
    Code.wp Tryd.prog regS27 Q0 ⟨#[u0, u1, u2, u3, u4, u5, u6, u7, u8, u9, u10, .slice (some ⟨gw, 0, none⟩) i cw, u12, .int .i64 i, .int .u32 p, .int .u32 q, u16, u17, u18, u19, u20, u21, u22, u23, u24, u25, u26, u27, u28, u29, u30, u31, u32, u33, u34, u35, u36, u37, u38, u39, u40, u41, u42, u43, u44, u45, u46, u47, u48, u49, u50, u51, u52, u53, u54, u55, u56, u57, u58, u59, u60, u61, u62, u63, u64, u65, u66, u67, u68, u69, u70, u71, u72, u73, u74, u75, u76, u77, u78, u79, u80, u81, u82, u83, u84, u85, u86, u87, u88, u89, u90, u91, u92, u93, u94, u95, u96, u97, u98, u99, u100, u101, u102, u103, u104, u105, u106, u107, u108, u109, u110, u111, u112, u113, u114, u115, u116, u117, u118, u119, u120, u121, u122, u123, u124, u125, u126, u127, u128, u129, u130, u131, u132, u133, u134, u135, u136, u137, u138, u139, u140, u141, u142, u143, u144, u145, u146, u147, u148, u149, u150, u151, u152, u153, u154, u155, u156, u157, u158, u159, u160, u161, u162, u163, u164, u165, u166, u167, u168, u169, u170, u171, u172, u173, u174, u175, u176, u177, u178, u179, u180, u181, u182, u183, u184, u185, u186, u187, u188, u189, u190, u191, u192, u193, u194, u195, u196, u197, u198, u199, u200, u201, u202, u203, u204, u205, u206, u207, u208, u209, u210, u211, u212, u213, u214, u215, u216, u217, u218, u219, u220, u221, u222, u223, u224, u225, u226, u227, u228, u229, u230, u231, u232, u233, u234, u235, u236, u237, u238, u239, u240, u241, u242, u243, u244, u245, u246, u247, u248, u249, u250, u251, u252, u253, u254, u255, u256, u257, u258, u259, u260, u261, u262, u263, u264, u265, u266, u267, u268, u269, u270, u271, u272, u273, u274, u275, u276, u277, u278, u279, u280, u281, u282, u283, u284, u285, u286, u287, u288, u289, u290, u291, u292, u293, u294, u295, u296, u297, u298, u299, u300, u301, u302, u303, u304, u305, u306, u307, u308, u309, u310, u311, u312, u313, u314, u315, u316, u317], []⟩ wo := by
  have HE := Lib.hid hexit
  clear hexit
  have hl : l.length = i := by have := hW.1; rwa [nums_length, Nat.mul_one] at this
  have q16 := own_cellR hW a16 (by omega)
  have q7 := own_cellR hW a7 (by omega)
  have N16 := Lib.hid (nums_get .u32 l a16 (by omega))
  have N7 := Lib.hid (nums_get .u32 l a7 (by omega))
  have e16 : IntKind.i64.wrap ((i : Int) - 16) = (a16 : Int) := by rw [IntWalk.i64_in _ (by omega)]; omega
  have e7 : IntKind.i64.wrap ((i : Int) - 7) = (a7 : Int) := by rw [IntWalk.i64_in _ (by omega)]; omega
  have z16 : (0 : Int) ≤ (a16 : Int) := by omega
  have z7 : (0 : Int) ≤ (a7 : Int) := by omega
  have l16 : (a16 : Int) < (i : Int) := by omega
  have l7 : (a7 : Int) < (i : Int) := by omega
  have HL := Lib.hid hl
  have hib : i ≤ 64 := by omega
  clear hl h16 h7
  conv => arg 2; whnf
  go_region_held3 (fun w' => w'.cell? ⟨gw, a16, none⟩ = some (.int .u32 (rd l a16)) ∧ w'.cell? ⟨gw, a7, none⟩ = some (.int .u32 (rd l a7)))
    (first | (refine ⟨?_, ?_⟩ <;> first | go_keep | exact hkeep _ _ _ rfl N16.out | exact hkeep _ _ _ rfl N7.out))
    ((refine step_app1 _ (by rfl) (.tmp 156) (.tmp 172) _ (by rfl) B 27 _ 4 Tryd.underlying57 infoR32 rfl (.slice (some ⟨gw, 0, none⟩) i cw) i (nums .u32 l) (by rfl) ((hW.alloc _).drew) _ _ 1 1 [.int .u32 (IntKind.u32.wrap (IntKind.u32.wrap (IntKind.u32.wrap (rd l a16 + p) + rd l a7) + q))] (by rfl) (Rd.of_block0 (heap_alloc_new _ _)) (by omega) (nums_one .u32 [(IntKind.u32.wrap (IntKind.u32.wrap (IntKind.u32.wrap (rd l a16 + p) + rd l a7) + q))]) (by unfold maxLen; omega) (by omega) (by simp; omega) ?_; intro A3 c3 w3 hown3 hgrow3 hat3 hkeep; clear hat3))
  all_goals
    refine HE.out _ _ _ _ _ _ _ _ _ _ _ _ _ _ _ _ _ _ _ _ _ ?_ ?_
    · exact own_cast hown3 (by rw [nums_append]; congr 1; show [Value.int .u32 _] = [Value.int .u32 _]; congr 2; simp only [u32_wrap, M32]; omega)
    · exact grown_below (((Below.refl _ _).alloc (Nat.le_refl _) _).drew) hgrow3
end Go.Proofs.YtjlkakggmfmfiaaDoor

