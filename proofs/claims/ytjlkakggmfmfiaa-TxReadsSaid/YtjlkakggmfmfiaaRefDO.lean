/- The reference's Decode: the outputs. -/
import Derived.Test.YtjlkakggmfmfiaaRefDI
import Derived.Test.YtjlkakggmfmfiaaDecOuts
set_option maxRecDepth 100000
set_option linter.unusedVariables false
namespace Go.Proofs.Ytjlkakggmfmfiaa
open Go Go.RowKit
abbrev OutOwnR (w : World) (base : Nat) (v : Value) (n : Nat) (xs : List TOut) : Prop := outK.Own (fun _ => False) w base 70 v n xs
theorem zinfo_out07 : (Try.prog.info? 70).map (fun i => (i.zero, i.size, i.bytes)) = some (some (.agg #[.int .i64 0, .string ⟨#[]⟩]), 2, 24) := by kernel_rfl
theorem info_outA07 (x : TOut) : (Try.prog.info? 70).map (·.size) = some (outCells x).toArray.size := by rw [List.size_toArray]; kernel_rfl
noncomputable def rdB4 : Code := ((Try.f20.body.bind (findBk 4)).getD .skip)
set_option maxHeartbeats 16000000 in
theorem rd_outs {u0 u1 u2 u3 u4 u7 u8 u10 u11 u12 u14 u15 u16 u17 u18 u19 u20 u21 u22 u23 u24 u25 u26 u27 u28 u29 u30 u31 u32 u33 u34 u35 u36 u37 u38 u39 u40 u41 u42 u43 u44 u45 u46 u47 u48 u49 u50 u51 u52 u53 u54 u55 u56 u57 u58 u59 u60 u61 u62 u63 u64 u65 u66 u67 u68 u69 u70 u71 u72 u73 u74 u75 u76 u77 u78 u79 u80 u81 u82 u83 u84 u85 u86 u87 u88 u89 u90 u91 u92 u93 u94 u95 u96 u97 u98 u99 u100 u101 u102 u103 u104 u105 u106 u107 u108 u109 u110 u111 u112 u113 u114 u115 u116 u117 u118 u119 u120 u121 u122 u123 u124 u125 u126 u127 u128 u129 u130 u131 u132 u133 u134 u135 u136 u137 u138 u139 u140 u141 u142 u143 u144 u145 u146 u147 u148 u149 u150 u151 u152 u153 u154 u155 u156 u157 u158 u159 u160 u161 u162 u163 u164 u165 u166 u167 u168 u169 u170 u171 u172 u173 u174 u175 u176 u177 u178 u179 u180 u181 u182 u183 u184 u185 u186 u187 u188 u189 u190 u191 u192 u193 u194 u195 u196 u197 u198 u199 u200 u201 u202 u203 u204 u205 u206 u207 u208 u209 u210 u211 u212 u213 u214 u215 u216 u217 u218 u219 u220 u221 u222 u223 u224 u225 u226 u227 u228 u229 u230 u231 u232 u233 u234 u235 u236 u237 u238 u239 u240 u241 u242 u243 u244 u245 u246 u247 u248 u249 u250 u251 u252 u253 u254 u255 u256 u257 : Value} (w wr0 : World) (A : Option Addr) (m c : Nat) (bs : List Int) (hm : m ≤ 1000000) (hmc : m ≤ c) (hr : Rd w A m (nums .u8 bs)) (hby : Bytes bs) (r5 g6 base n0 at0 : Nat) (ver : Int) (vI : Value) (s0 : PSt) (hn0 : n0 ≤ 1024)
    (h5 : w.heap.size ≤ r5) (h56 : r5 < g6) (h6b : g6 < base) (hsz0 : base ≤ wr0.heap.size) (hS0 : Sim bs at0 s0) (hb0s : Bytes s0.bs) (gP0 : wr0.heap[r5]? = some (.cells (plL A m c at0 s0.e).toArray 82)) (g60 : wr0.heap[g6]? = some (.cells (tCells ver vI (.slice none 0 0) 0) 46)) (hB0 : Below w.heap.size w wr0) (Q0 : Exit → Act → World → Prop)
    (hexit : ∀ x7 x13 x14 x135 x136 x137 x138 x139 x140 x141 x142 x143 x144 x145 x146 x147 x148 x149 x150 x151 x152 x153 x154 x155 x156 x157 x158 x159 x160 x161 x162 x163 x164 x165 A1 N1 c1 w' at', Bytes (outsP n0 s0).2.bs → Sim bs at' (outsP n0 s0).2 ∧ w'.heap[r5]? = some (.cells (plL A m c at' (outsP n0 s0).2.e).toArray 82) ∧ OutOwnR w' base (.slice A1 N1 c1) N1 (outsP n0 s0).1 ∧ w'.heap[g6]? = some (.cells (tCells ver vI (.slice A1 N1 c1) 0) 46) ∧ Below w.heap.size w w' ∧ base ≤ w'.heap.size ∧ Two0 wr0 r5 g6 base w' → Q0 .normal ⟨#[u0, u1, u2, u3, u4, .pointer (some ⟨r5, 0, none⟩), .pointer (some ⟨g6, 0, none⟩), x7, u8, .int .i64 n0, u10, u11, u12, x13, x14, u15, u16, u17, u18, u19, u20, u21, u22, u23, u24, u25, u26, u27, u28, u29, u30, u31, u32, u33, u34, u35, u36, u37, u38, u39, u40, u41, u42, u43, u44, u45, u46, u47, u48, u49, u50, u51, u52, u53, u54, u55, u56, u57, u58, u59, u60, u61, u62, u63, u64, u65, u66, u67, u68, u69, u70, u71, u72, u73, u74, u75, u76, u77, u78, u79, u80, u81, u82, u83, u84, u85, u86, u87, u88, u89, u90, u91, u92, u93, u94, u95, u96, u97, u98, u99, u100, u101, u102, u103, u104, u105, u106, u107, u108, u109, u110, u111, u112, u113, u114, u115, u116, u117, u118, u119, u120, u121, u122, u123, u124, u125, u126, u127, u128, u129, u130, u131, u132, u133, u134, x135, x136, x137, x138, x139, x140, x141, x142, x143, x144, x145, x146, x147, x148, x149, x150, x151, x152, x153, x154, x155, x156, x157, x158, x159, x160, x161, x162, x163, x164, x165, u166, u167, u168, u169, u170, u171, u172, u173, u174, u175, u176, u177, u178, u179, u180, u181, u182, u183, u184, u185, u186, u187, u188, u189, u190, u191, u192, u193, u194, u195, u196, u197, u198, u199, u200, u201, u202, u203, u204, u205, u206, u207, u208, u209, u210, u211, u212, u213, u214, u215, u216, u217, u218, u219, u220, u221, u222, u223, u224, u225, u226, u227, u228, u229, u230, u231, u232, u233, u234, u235, u236, u237, u238, u239, u240, u241, u242, u243, u244, u245, u246, u247, u248, u249, u250, u251, u252, u253, u254, u255, u256, u257], []⟩ w') :
    Code.wp Try.prog rdB4 Q0 ⟨#[u0, u1, u2, u3, u4, .pointer (some ⟨r5, 0, none⟩), .pointer (some ⟨g6, 0, none⟩), u7, u8, .int .i64 n0, u10, u11, u12, .int .i64 0, u14, u15, u16, u17, u18, u19, u20, u21, u22, u23, u24, u25, u26, u27, u28, u29, u30, u31, u32, u33, u34, u35, u36, u37, u38, u39, u40, u41, u42, u43, u44, u45, u46, u47, u48, u49, u50, u51, u52, u53, u54, u55, u56, u57, u58, u59, u60, u61, u62, u63, u64, u65, u66, u67, u68, u69, u70, u71, u72, u73, u74, u75, u76, u77, u78, u79, u80, u81, u82, u83, u84, u85, u86, u87, u88, u89, u90, u91, u92, u93, u94, u95, u96, u97, u98, u99, u100, u101, u102, u103, u104, u105, u106, u107, u108, u109, u110, u111, u112, u113, u114, u115, u116, u117, u118, u119, u120, u121, u122, u123, u124, u125, u126, u127, u128, u129, u130, u131, u132, u133, u134, u135, u136, u137, u138, u139, u140, u141, u142, u143, u144, u145, u146, u147, u148, u149, u150, u151, u152, u153, u154, u155, u156, u157, u158, u159, u160, u161, u162, u163, u164, u165, u166, u167, u168, u169, u170, u171, u172, u173, u174, u175, u176, u177, u178, u179, u180, u181, u182, u183, u184, u185, u186, u187, u188, u189, u190, u191, u192, u193, u194, u195, u196, u197, u198, u199, u200, u201, u202, u203, u204, u205, u206, u207, u208, u209, u210, u211, u212, u213, u214, u215, u216, u217, u218, u219, u220, u221, u222, u223, u224, u225, u226, u227, u228, u229, u230, u231, u232, u233, u234, u235, u236, u237, u238, u239, u240, u241, u242, u243, u244, u245, u246, u247, u248, u249, u250, u251, u252, u253, u254, u255, u256, u257], []⟩ wr0 := by
  have HE := Lib.hid hexit
  clear hexit
  have hU := Try.underlying82
  have hUT := Try.underlying46
  have hUI := Try.underlying70
  have hUS := Try.underlying44
  have hO0 : OutOwnR wr0 base (.slice none 0 0) 0 [] := RK.Own.nil _ _ _ _ _
  have hT0 : Two0 wr0 r5 g6 base wr0 := fun _ _ _ _ => rfl
  conv => arg 2; whnf
  go_wp2
  go_loopw [13] (fun v13 wr => ∃ (j at_ : Nat) (s : PSt) (acc : List TOut) (A1 : Option Addr) (c1 : Nat), j ≤ n0 ∧ v13 = .int .i64 j ∧ Hid (outsP n0 s0 = (acc ++ (outsP (n0 - j) s).1, (outsP (n0 - j) s).2)) ∧ Hid (Bytes s.bs) ∧ Sim bs at_ s ∧ wr.heap[r5]? = some (.cells (plL A m c at_ s.e).toArray 82) ∧ OutOwnR wr base (.slice A1 j c1) j acc ∧ wr.heap[g6]? = some (.cells (tCells ver vI (.slice A1 j c1) 0) 46) ∧ Below w.heap.size w wr ∧ base ≤ wr.heap.size ∧ Hid (Two0 wr0 r5 g6 base wr)) (fun v _ => n0 - (intOf v).toNat)
  case atStart => exact ⟨0, at0, s0, [], none, 0, by omega, rfl, Lib.hid (by simp), Lib.hid hb0s, hS0, gP0, hO0, g60, hB0, hsz0, Lib.hid hT0⟩
  case round =>
    clear hS0 gP0 hO0 g60 hB0 hsz0 hb0s hT0
    obtain ⟨j, at_, s, acc, A1, c1, hj, rfl, HR, HBS, hS, gP, hO, g6h, hB, hsz, HT⟩ := hrel
    have e2 : wr.cell? ⟨r5, 2, none⟩ = some (.int .i64 s.e) := blk_cell gP rfl
    by_cases hlt : j < n0
    · have hlt' : decide ((j : Int) < (n0 : Int)) = true := decide_eq_true (by omega)
      by_cases he : s.e = 0
      · have he1 : (s.e == 0) = true := beq_iff_eq.2 he
        have hstep : outsP n0 s0 = (acc ++ [(outP1 s).1] ++ (outsP (n0 - (j + 1)) (outP1 s).2).1, (outsP (n0 - (j + 1)) (outP1 s).2).2) := by
          rw [HR.out, show n0 - j = (n0 - (j + 1)) + 1 by omega, outsP, if_neg (by rw [he]; decide), List.append_assoc]
          rfl
        have HST := Lib.hid hstep
        have HOKX := Lib.hid (outP1_ok HBS.out)
        have HE0 := Lib.hid he
        clear he hstep
        go_upto_region 31 with fail
        have ga := heap_alloc_new wr (.cells #[.int .i64 0, .string ⟨#[]⟩] 70)
        have hba : Below wr.heap.size wr (wr.alloc (.cells #[.int .i64 0, .string ⟨#[]⟩] 70)) := (Below.refl _ _).alloc (Nat.le_refl _) _
        refine wp_gen (q := fun wa => wa.heap[wr.heap.size]? = some (.cells #[.int .i64 0, .string ⟨#[]⟩] 70) ∧ Below wr.heap.size wr wa) ⟨ga, hba⟩ (fun wa hw => ?_)
        clear ga hba
        obtain ⟨ga, hba⟩ := hw
        have gPa := heap_below hba gP
        have hFa := grown_of_below hba (some r5)
        have hOw := hO
        have g6a := heap_below hba g6h
        have hBa := below_then hB hB.size hba
        have hgi : base ≤ wr.heap.size := hsz
        have hszr : base ≤ wr.heap.size := hsz
        obtain ⟨gi, hgie⟩ : ∃ g, wr.heap.size = g := ⟨_, rfl⟩
        have hgl : gi < wa.heap.size := by rw [← hgie]; exact heap_lt ga
        have hgw : wr.heap.size ≤ gi := by omega
        rw [hgie] at ga hgi ⊢
        have hsza : base ≤ wa.heap.size := by omega
        clear gP hO g6h hB hsz hba hgie e2
        go_wp2_with (first | ((with_reducible refine wpList_at 147 ?_); refine wpList_load_row rfl 82 (.tmp 5) rfl r5 rfl 82 _ _ _ gPa hU rfl (info_plA _ _ _ _ _) ?_))
        refine (number_calls _ A m c bs hm (hr.below hBa) hby at_ s hS 8 (by decide) (by decide)).mono ?_
        rintro e v1 ⟨a1, rfl, hS1, hbn1⟩
        have gQ1 := heap_below hbn1 gPa
        have hBQ1 := below_then hBa hBa.size hbn1
        have hFQ1 := grown_trans hFa (grown_of_below hbn1 (some r5))
        have gIq1 := heap_below hbn1 ga
        have g6q1 := heap_below hbn1 g6a
        have hzq1 := Nat.le_trans hsza hbn1.size
        clear gPa hBa hFa hsza ga g6a hbn1
        go_upto_region 32 with (first | ((with_reducible refine wpList_atS 5 ?_); refine wpList_store_any rfl 82 (.tmp 5) (.tmp 150) rfl r5 (plL A m c a1 (s.take 8).e).toArray rfl rfl 82 _ gQ1 (info_plA _ _ _ _ _) rfl (pl_all _ _ _ _ _) ?_; intro y2 gP2 htP2))
        have hBP2 := htP2.below hBQ1 h5
        have hFP2 := grown_trans hFQ1 htP2.grown
        have gIp2 := htP2.keep gIq1 (by omega)
        have g6p2 := htP2.keep g6q1 (by omega)
        have hzp2 : base ≤ y2.heap.size := by rw [htP2.size]; exact hzq1
        clear gQ1 hBQ1 hFQ1 hzq1 gIq1 g6q1 htP2
        have hwe : wrap64 (ofLE (s.takeB 8)) = IntKind.i64.wrap (ofLE (s.takeB 8)) := by rw [IntKind.wrap_i64]; unfold wrap64; omega
        have HWE := Lib.hid hwe
        clear hwe
        have cI3 : y2.cell? ⟨gi, 0, none⟩ = some (.int .i64 0) := blk_cell gIp2 rfl
        have fI3 := blk_frozen gIp2 0
        have gIs3 := blk_set gIp2 0 (.int .i64 (wrap64 (ofLE (s.takeB 8))))
        have htI3 := turned_setCell y2 gi 0 (.int .i64 (wrap64 (ofLE (s.takeB 8))))
        have gS3 := htI3.keep gP2 (by omega)
        have g6s3 := htI3.keep g6p2 (by omega)
        have hBS3 := htI3.below hBP2 (by omega)
        have hFS3 := grown_far hFP2 htI3 hgw
        have hzs3 : base ≤ (y2.setCell ⟨gi, 0, none⟩ (.int .i64 (wrap64 (ofLE (s.takeB 8))))).heap.size := by rw [htI3.size]; exact hzp2
        clear gP2 hBP2 hFP2 hzp2 gIp2 g6p2 htI3
        go_upto_region 33 with fail
        clear cI3 fI3
        go_wp2_with (first | ((with_reducible refine wpList_at 155 ?_); refine wpList_load_row rfl 82 (.tmp 5) rfl r5 rfl 82 _ _ _ gS3 hU rfl (info_plA _ _ _ _ _) ?_))
        refine (text_calls07 _ A m c bs hmc hm (hr.below hBS3) hby a1 (s.take 8) hS1).mono ?_
        rintro e v4 ⟨a2, rfl, hS4, hbn4⟩
        have gQ4 := heap_below hbn4 gS3
        have hBQ4 := below_then hBS3 hBS3.size hbn4
        have hFQ4 := grown_trans hFS3 (grown_of_below hbn4 (some r5))
        have gIq4 := heap_below hbn4 gIs3
        have g6q4 := heap_below hbn4 g6s3
        have hzq4 := Nat.le_trans hzs3 hbn4.size
        clear gS3 hBS3 hFS3 hzs3 gIs3 g6s3 hbn4
        have cI5 : v4.cell? ⟨gi, 1, none⟩ = some (.string ⟨#[]⟩) := blk_cell gIq4 rfl
        have fI5 := blk_frozen gIq4 1
        have gIs5 := blk_set gIq4 1 (.string (strOfNums (s.take 8).textB))
        have htI5 := turned_setCell v4 gi 1 (.string (strOfNums (s.take 8).textB))
        have gS5 := htI5.keep gQ4 (by omega)
        have g6s5 := htI5.keep g6q4 (by omega)
        have hBS5 := htI5.below hBQ4 (by omega)
        have hFS5 := grown_far hFQ4 htI5 hgw
        have hzs5 : base ≤ (v4.setCell ⟨gi, 1, none⟩ (.string (strOfNums (s.take 8).textB))).heap.size := by rw [htI5.size]; exact hzq4
        clear gQ4 hBQ4 hFQ4 hzq4 gIq4 g6q4 htI5
        go_upto_region 34 with (first | ((with_reducible refine wpList_atS 5 ?_); refine wpList_store_any rfl 82 (.tmp 5) (.tmp 158) rfl r5 (plL A m c a2 ((s.take 8).text).e).toArray rfl rfl 82 _ gS5 (info_plA _ _ _ _ _) rfl (pl_all _ _ _ _ _) ?_; intro y6 gP6 htP6))
        have hBP6 := htP6.below hBS5 h5
        have hFP6 := grown_trans hFS5 htP6.grown
        have gIp6 := htP6.keep gIs5 (by omega)
        have g6p6 := htP6.keep g6s5 (by omega)
        have hzp6 : base ≤ y6.heap.size := by rw [htP6.size]; exact hzs5
        clear gS5 hBS5 hFS5 hzs5 gIs5 g6s5 htP6 cI5 fI5
        have hx1 : y6.heap[gi]? = some (.cells (outCells (outP1 s).1).toArray 70) := by have hx := gIp6; rw [HWE.out] at hx; exact hx
        have hO8 : OutOwnR _ base (.slice A1 j c1) j acc := RK.Own.grown_ hOw hFP6 (fun q e => by cases e; omega)
        have hT8 : Hid (Two0 wr0 r5 g6 base y6) := Lib.hid fun q hq h1 h2 => (hFP6.block q (by omega) (fun e => h1 (Option.some.inj e))).trans (HT.out q hq h1 h2)
        have hg8 := g6p6
        have hP8 := gP6
        have hB8 := hBP6
        have hz8 := hzp6
        clear gP6 hBP6 hFP6 hzp6 gIp6 g6p6
        refine wp_gen (q := fun W => W.heap[g6]? = some (.cells (tCells ver vI (.slice A1 j c1) 0) 46) ∧ W.heap[gi]? = some (.cells (outCells (outP1 s).1).toArray 70) ∧ W.heap[r5]? = some (.cells (plL A m c a2 (outP1 s).2.e).toArray 82) ∧ OutOwnR W base (.slice A1 j c1) j acc ∧ base ≤ W.heap.size ∧ Below w.heap.size w W ∧ Hid (Two0 wr0 r5 g6 base W)) ⟨hg8, hx1, hP8, hO8, hz8, hB8, hT8⟩ (fun W hw => ?_)
        clear hg8 hx1 hP8 hO8 hz8 hB8 hOw hT8
        obtain ⟨hg8, hx1, hP8, hO8, hz8, hB8, HT8⟩ := hw
        have d8 := blk_cell hg8 (i := 2) (v := .slice A1 j c1) rfl
        have hok := HOKX.out
        have hjl : j + 1 ≤ 1025 := by omega
        have hq1 : OutOwnR (W.alloc (.cells (outCells (outP1 s).1).toArray 70)) base (.slice A1 j c1) j acc := RK.Own.alloc hO8 _
        have hq2 : outK.C (fun _ => True) (W.alloc (.cells (outCells (outP1 s).1).toArray 70)) (some ⟨W.heap.size, 0, none⟩) 1 [(outP1 s).1] := outK_one (heap_alloc_new _ _) hok
        have hq3 : base ≤ (W.alloc (.cells (outCells (outP1 s).1).toArray 70)).heap.size := by simp; omega
        have hq4 : (j + 1) * 24 ≤ 140737488355328 := by omega
        have hq5 : j + 1 ≤ maxLen := by unfold maxLen; omega
        have hzi := zinfo_out07
        have hg8a := blk_alloc hg8 (.cells (outCells (outP1 s).1).toArray 70)
        go_upto_region 29 with (first
          | (refine wpList_load_row rfl 70 (.tmp 14) rfl gi rfl _ _ _ _ hx1 hUI rfl (info_outA07 _) ?_)
          | (refine wpList_build1 rfl 44 70 _ rfl hUS _ 2 24 zinfo_out07 (by decide) (by decide) (outCells (outP1 s).1) rfl rfl rfl ?_)
          | (refine RK.wpList_appK outK _ rfl (.tmp 161) (.tmp 163) 44 rfl (fun _ => False) base 70 _ 24 hUS hzi rfl (by decide) (.slice A1 j c1) j acc rfl hq1 (fun k h => h.elim) _ 1 1 [(outP1 s).1] rfl (fun _ => True) hq2 (fun _ _ h => h) (j + 1) _ rfl rfl hq5 hq4 hq3 ?_
             intro A9 c9 w9 hO9 hG9 hat9
             have hg9 := heap_grown hG9 hg8a (fun e => by have := (RK.Own.lt hO8 _ e.symm).1; omega)
             have d9 := blk_cell hg9 (i := 2) (v := .slice A1 j c1) rfl
             have f9 := blk_frozen hg9 2
             have hs9 := Lib.hid hG9.size
             have HG9 := Lib.hid hG9
             have hlo9 : Hid (∀ q, (Value.slice A1 j c1).ownBlock = some q → base ≤ q) := Lib.hid fun q hq => (RK.Own.lt hO8 q hq).1
             clear hq1 hq2 hq3 hq4 hq5 hzi hg8a d8 hg8 hx1 hO8 hG9 hat9
             refine wp_stopper ?_))
        refine Lib.hid ?_
        go_upto_region 29 with fail
        have hT9 := turned_setCell w9 g6 2 (.slice A9 (j + 1) c9)
        have hWa : Below W.heap.size W (W.alloc (.cells (outCells (outP1 s).1).toArray 70)) := (Below.refl _ _).alloc (Nat.le_refl _) _
        have hPa := heap_below hWa hP8
        have hr5s : r5 < W.heap.size := by omega
        have hP9 := heap_grown HG9.out hPa (fun e => by have := hlo9.out r5 e.symm; omega)
        have hP10 := hT9.keep hP9 (by omega)
        have hO10 := RK.Own.grown_ hO9 hT9.grown (fun k e => by cases e; omega)
        have hg10 := blk_set hg9 2 (.slice A9 (j + 1) c9)
        have hBa := below_then hB8 hB8.size hWa
        have hB9 := hBa.grown HG9.out hBa.size (fun k e => by have := hlo9.out k e; omega)
        have hB10 := hT9.below hB9 (by omega)
        have hs10 : base ≤ (w9.setCell ⟨g6, 2, none⟩ (.slice A9 (j + 1) c9)).heap.size := by have h1 := hs9.out; rw [hT9.size]; simp at h1; omega
        have HT10 : Hid (Two0 wr0 r5 g6 base (w9.setCell ⟨g6, 2, none⟩ (.slice A9 (j + 1) c9))) := Lib.hid fun q hq n1 n2 => by
          rw [hT9.block q n2, HG9.out.block q (by simp; omega) (fun e => by have := hlo9.out q e.symm; omega), hWa.block q (by omega)]
          exact HT8.out q hq n1 n2
        clear hP8 hz8 hB8 hWa hPa hP9 hO9 hg9 hT9 hBa hB9 HG9 hs9 hlo9 d9 f9
        go_wp2
        go_roundw
        case rel => exact ⟨j + 1, a2, (outP1 s).2, acc ++ [(outP1 s).1], A9, c9, by omega, by go_num, HST, Lib.hid (outP1_bytes HBS.out), hS4, hP10, hO10, hg10, hB10, hs10, HT10⟩
        case measure => simp [intOf]; omega
      · have he1 : (s.e == 0) = false := beq_eq_false_iff_ne.2 he
        have hstop : outsP n0 s0 = (acc, s) := by
          rw [HR.out, show n0 - j = (n0 - (j + 1)) + 1 by omega, outsP, if_pos he, List.append_nil]
        have HX1 := Lib.hid hstop
        clear he hstop
        go_wp2
        exact HE.out _ _ _ _ _ _ _ _ _ _ _ _ _ _ _ _ _ _ _ _ _ _ _ _ _ _ _ _ _ _ _ _ _ _ A1 j c1 wr at_ (by rw [HX1.out]; exact HBS.out) (by rw [HX1.out]; exact ⟨hS, gP, hO, g6h, hB, hsz, HT.out⟩)
    · have hlt' : decide ((j : Int) < (n0 : Int)) = false := decide_eq_false (by omega)
      have hend : outsP n0 s0 = (acc, s) := by
        rw [HR.out, show n0 - j = 0 by omega, outsP, List.append_nil]
      have HX1 := Lib.hid hend
      clear hend
      go_wp2
      exact HE.out _ _ _ _ _ _ _ _ _ _ _ _ _ _ _ _ _ _ _ _ _ _ _ _ _ _ _ _ _ _ _ _ _ _ A1 j c1 wr at_ (by rw [HX1.out]; exact HBS.out) (by rw [HX1.out]; exact ⟨hS, gP, hO, g6h, hB, hsz, HT.out⟩)
end Go.Proofs.Ytjlkakggmfmfiaa
