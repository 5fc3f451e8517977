/- The reference's Decode: the inputs. -/
import Derived.Test.YtjlkakggmfmfiaaRefDecP
set_option maxRecDepth 100000
set_option linter.unusedVariables false
namespace Go.Proofs.Ytjlkakggmfmfiaa
open Go Go.RowKit
abbrev InOwnR (w : World) (base : Nat) (v : Value) (n : Nat) (xs : List TIn) : Prop := in0K.Own (fun _ => False) w base 69 v n xs
theorem zinfo_in07 : (Try.prog.info? 69).map (fun i => (i.zero, i.size, i.bytes)) = some (some (.agg (inCells in0 (.slice none 0 0)).toArray), 36, 88) := by kernel_rfl
theorem in_setId (ids : List Int) (k : Nat) (hk : k < 32) (hl : ids.length = k) (x : Int) : (inCells { in0 with id := ids ++ List.replicate (32 - k) 0 } (.slice none 0 0)).toArray.setIfInBounds k (.int .u8 x) = (inCells { in0 with id := (ids ++ [x]) ++ List.replicate (32 - (k + 1)) 0 } (.slice none 0 0)).toArray := by
  apply Array.ext'
  rw [Array.toList_setIfInBounds, List.toList_toArray, List.toList_toArray]
  unfold inCells
  simp only
  rw [List.set_append_left _ _ (by rw [nums_length, List.length_append, List.length_replicate]; omega), nums_set]
  congr 2
  rw [List.set_append_right _ _ (by omega), hl, Nat.sub_self, show 32 - k = (32 - (k + 1)) + 1 by omega, List.replicate_succ, List.set_cons_zero, List.append_assoc]
  rfl
theorem ins_step {n0 j : Nat} {s0 s : PSt} {acc : List TIn} (hlt : j < n0) (he : s.e = 0) (h1 : (insP n0 s0).2.e = (insP (n0 - j) s).2.e) (h2 : s.e = 0 → insP n0 s0 = (acc ++ (insP (n0 - j) s).1, (insP (n0 - j) s).2)) :
    (insP n0 s0).2.e = (insP (n0 - (j + 1)) (rInP s).2).2.e ∧ ((rInP s).2.e = 0 → insP n0 s0 = ((acc ++ [(rInP s).1]) ++ (insP (n0 - (j + 1)) (rInP s).2).1, (insP (n0 - (j + 1)) (rInP s).2).2)) := by
  have hst : insP (n0 - j) s = ((inP1 s).1 :: (insP (n0 - (j + 1)) (inP1 s).2).1, (insP (n0 - (j + 1)) (inP1 s).2).2) := by
    rw [show n0 - j = (n0 - (j + 1)) + 1 by omega, insP, if_neg (fun h => h he)]
  obtain ⟨r1, r2⟩ := rInP_same s
  have hbad : ∀ (k : Nat) (p : PSt), p.e ≠ 0 → insP k p = ([], p) := fun k p hp => by
    cases k with
    | zero => rfl
    | succ k => rw [insP, if_pos hp]
  by_cases hz : (inP1 s).2.e = 0
  · have hq := r2 hz
    rw [hq]
    refine ⟨by rw [h1, hst], fun _ => ?_⟩
    rw [h2 he, hst]
    simp
  · have hz' : (rInP s).2.e ≠ 0 := by rw [r1]; exact hz
    refine ⟨?_, fun h => absurd h hz'⟩
    rw [h1, hst, hbad _ _ hz', hbad _ _ hz]
    exact r1.symm
theorem in_zero_at (ids : List Int) (k : Nat) (hk : k < 32) (hl : ids.length = k) : (inCells { in0 with id := ids ++ List.replicate (32 - k) 0 } (.slice none 0 0))[k]? = some (.int .u8 0) := by
  unfold inCells
  simp only
  rw [List.getElem?_append_left (by rw [nums_length, List.length_append, List.length_replicate]; omega), nums_get _ _ _ (by rw [List.length_append, List.length_replicate]; omega)]
  rw [rd_append_right _ _ _ (by omega), hl, Nat.sub_self]
  congr 2
  rw [show 32 - k = (31 - k) + 1 by omega, List.replicate_succ]
  rfl
noncomputable def rdB0 : Code := ((Try.f20.body.bind (findBk 0)).getD .skip)
set_option maxHeartbeats 16000000 in
theorem rd_ins {u0 u1 u2 u3 u4 u7 u8 u11 u12 u13 u14 u15 u16 u17 u18 u19 u20 u21 u22 u23 u24 u25 u26 u27 u28 u29 u30 u31 u32 u33 u34 u35 u36 u37 u38 u39 u40 u41 u42 u43 u44 u45 u46 u47 u48 u49 u50 u51 u52 u53 u54 u55 u56 u57 u58 u59 u60 u61 u62 u63 u64 u65 u66 u67 u68 u69 u70 u71 u72 u73 u74 u75 u76 u77 u78 u79 u80 u81 u82 u83 u84 u85 u86 u87 u88 u89 u90 u91 u92 u93 u94 u95 u96 u97 u98 u99 u100 u101 u102 u103 u104 u105 u106 u107 u108 u109 u110 u111 u112 u113 u114 u115 u116 u117 u118 u119 u120 u121 u122 u123 u124 u125 u126 u127 u128 u129 u130 u131 u132 u133 u134 u135 u136 u137 u138 u139 u140 u141 u142 u143 u144 u145 u146 u147 u148 u149 u150 u151 u152 u153 u154 u155 u156 u157 u158 u159 u160 u161 u162 u163 u164 u165 u166 u167 u168 u169 u170 u171 u172 u173 u174 u175 u176 u177 u178 u179 u180 u181 u182 u183 u184 u185 u186 u187 u188 u189 u190 u191 u192 u193 u194 u195 u196 u197 u198 u199 u200 u201 u202 u203 u204 u205 u206 u207 u208 u209 u210 u211 u212 u213 u214 u215 u216 u217 u218 u219 u220 u221 u222 u223 u224 u225 u226 u227 u228 u229 u230 u231 u232 u233 u234 u235 u236 u237 u238 u239 u240 u241 u242 u243 u244 u245 u246 u247 u248 u249 u250 u251 u252 u253 u254 u255 u256 u257 : Value} (w wr0 : World) (A : Option Addr) (m c : Nat) (bs : List Int) (hm : m ≤ 1000000) (hmc : m ≤ c) (hr : Rd w A m (nums .u8 bs)) (hby : Bytes bs) (r5 g6 base n0 at0 : Nat) (ver : Int) (s0 : PSt) (hn0 : n0 ≤ 1024)
    (h5 : w.heap.size ≤ r5) (h56 : r5 < g6) (h6b : g6 < base) (hsz0 : base ≤ wr0.heap.size) (hS0 : Sim bs at0 s0) (hb0s : Bytes s0.bs) (gP0 : wr0.heap[r5]? = some (.cells (plL A m c at0 s0.e).toArray 82)) (g60 : wr0.heap[g6]? = some (.cells (tCells ver (.slice none 0 0) (.slice none 0 0) 0) 46)) (hB0 : Below w.heap.size w wr0) (Q0 : Exit → Act → World → Prop)
    (hexit : ∀ x7 x10 x11 x12 x77 x78 x79 x80 x81 x82 x83 x84 x85 x86 x87 x88 x89 x90 x91 x92 x93 x94 x95 x96 x97 x98 x99 x100 x101 x102 x103 x104 x105 x106 x107 x108 x109 x110 x111 x112 x113 x114 x115 x116 x117 x118 x119 x120 x121 x122 x123 x124 x125 x126 x127 x128 x129 A1 N1 c1 w' at' (s' : PSt) (acc : List TIn), (insP n0 s0).2.e = s'.e → (s'.e = 0 → insP n0 s0 = (acc, s')) → Bytes s'.bs → Sim bs at' s' ∧ w'.heap[r5]? = some (.cells (plL A m c at' s'.e).toArray 82) ∧ InOwnR w' base (.slice A1 N1 c1) N1 acc ∧ w'.heap[g6]? = some (.cells (tCells ver (.slice A1 N1 c1) (.slice none 0 0) 0) 46) ∧ Below w.heap.size w w' ∧ base ≤ w'.heap.size ∧ N1 ≤ n0 → Q0 .normal ⟨#[u0, u1, u2, u3, u4, .pointer (some ⟨r5, 0, none⟩), .pointer (some ⟨g6, 0, none⟩), x7, u8, .int .i64 n0, x10, x11, x12, u13, u14, u15, u16, u17, u18, u19, u20, u21, u22, u23, u24, u25, u26, u27, u28, u29, u30, u31, u32, u33, u34, u35, u36, u37, u38, u39, u40, u41, u42, u43, u44, u45, u46, u47, u48, u49, u50, u51, u52, u53, u54, u55, u56, u57, u58, u59, u60, u61, u62, u63, u64, u65, u66, u67, u68, u69, u70, u71, u72, u73, u74, u75, u76, x77, x78, x79, x80, x81, x82, x83, x84, x85, x86, x87, x88, x89, x90, x91, x92, x93, x94, x95, x96, x97, x98, x99, x100, x101, x102, x103, x104, x105, x106, x107, x108, x109, x110, x111, x112, x113, x114, x115, x116, x117, x118, x119, x120, x121, x122, x123, x124, x125, x126, x127, x128, x129, u130, u131, u132, u133, u134, u135, u136, u137, u138, u139, u140, u141, u142, u143, u144, u145, u146, u147, u148, u149, u150, u151, u152, u153, u154, u155, u156, u157, u158, u159, u160, u161, u162, u163, u164, u165, u166, u167, u168, u169, u170, u171, u172, u173, u174, u175, u176, u177, u178, u179, u180, u181, u182, u183, u184, u185, u186, u187, u188, u189, u190, u191, u192, u193, u194, u195, u196, u197, u198, u199, u200, u201, u202, u203, u204, u205, u206, u207, u208, u209, u210, u211, u212, u213, u214, u215, u216, u217, u218, u219, u220, u221, u222, u223, u224, u225, u226, u227, u228, u229, u230, u231, u232, u233, u234, u235, u236, u237, u238, u239, u240, u241, u242, u243, u244, u245, u246, u247, u248, u249, u250, u251, u252, u253, u254, u255, u256, u257], []⟩ w') :
    Code.wp Try.prog rdB0 Q0 ⟨#[u0, u1, u2, u3, u4, .pointer (some ⟨r5, 0, none⟩), .pointer (some ⟨g6, 0, none⟩), u7, u8, .int .i64 n0, .int .i64 0, u11, u12, u13, u14, u15, u16, u17, u18, u19, u20, u21, u22, u23, u24, u25, u26, u27, u28, u29, u30, u31, u32, u33, u34, u35, u36, u37, u38, u39, u40, u41, u42, u43, u44, u45, u46, u47, u48, u49, u50, u51, u52, u53, u54, u55, u56, u57, u58, u59, u60, u61, u62, u63, u64, u65, u66, u67, u68, u69, u70, u71, u72, u73, u74, u75, u76, u77, u78, u79, u80, u81, u82, u83, u84, u85, u86, u87, u88, u89, u90, u91, u92, u93, u94, u95, u96, u97, u98, u99, u100, u101, u102, u103, u104, u105, u106, u107, u108, u109, u110, u111, u112, u113, u114, u115, u116, u117, u118, u119, u120, u121, u122, u123, u124, u125, u126, u127, u128, u129, u130, u131, u132, u133, u134, u135, u136, u137, u138, u139, u140, u141, u142, u143, u144, u145, u146, u147, u148, u149, u150, u151, u152, u153, u154, u155, u156, u157, u158, u159, u160, u161, u162, u163, u164, u165, u166, u167, u168, u169, u170, u171, u172, u173, u174, u175, u176, u177, u178, u179, u180, u181, u182, u183, u184, u185, u186, u187, u188, u189, u190, u191, u192, u193, u194, u195, u196, u197, u198, u199, u200, u201, u202, u203, u204, u205, u206, u207, u208, u209, u210, u211, u212, u213, u214, u215, u216, u217, u218, u219, u220, u221, u222, u223, u224, u225, u226, u227, u228, u229, u230, u231, u232, u233, u234, u235, u236, u237, u238, u239, u240, u241, u242, u243, u244, u245, u246, u247, u248, u249, u250, u251, u252, u253, u254, u255, u256, u257], []⟩ wr0 := by
  have HE := Lib.hid hexit
  clear hexit
  have hU := Try.underlying82
  have hUT := Try.underlying46
  have hUI := Try.underlying69
  have hUS := Try.underlying43
  have hO0 : InOwnR wr0 base (.slice none 0 0) 0 [] := RK.Own.nil _ _ _ _ _
  conv => arg 2; whnf
  go_wp2
  go_loopw [10] (fun v10 wr => ∃ (j at_ : Nat) (s : PSt) (acc : List TIn) (A1 : Option Addr) (c1 : Nat), j ≤ n0 ∧ v10 = .int .i64 j ∧ Hid ((insP n0 s0).2.e = (insP (n0 - j) s).2.e ∧ (s.e = 0 → insP n0 s0 = (acc ++ (insP (n0 - j) s).1, (insP (n0 - j) s).2))) ∧ Hid (Bytes s.bs) ∧ Sim bs at_ s ∧ wr.heap[r5]? = some (.cells (plL A m c at_ s.e).toArray 82) ∧ InOwnR wr base (.slice A1 j c1) j acc ∧ wr.heap[g6]? = some (.cells (tCells ver (.slice A1 j c1) (.slice none 0 0) 0) 46) ∧ Below w.heap.size w wr ∧ base ≤ wr.heap.size) (fun v _ => n0 - (intOf v).toNat)
  case atStart => exact ⟨0, at0, s0, [], none, 0, by omega, rfl, Lib.hid (by simp), Lib.hid hb0s, hS0, gP0, hO0, g60, hB0, hsz0⟩
  case round =>
    clear hS0 gP0 hO0 g60 hB0 hsz0 hb0s
    obtain ⟨j, at_, s, acc, A1, c1, hj, rfl, HR, HBS, hS, gP, hO, g6h, hB, hsz⟩ := hrel
    have e2 : wr.cell? ⟨r5, 2, none⟩ = some (.int .i64 s.e) := blk_cell gP rfl
    by_cases hlt : j < n0
    · have hlt' : decide ((j : Int) < (n0 : Int)) = true := decide_eq_true (by omega)
      by_cases he : s.e = 0
      · have he1 : (s.e == 0) = true := beq_iff_eq.2 he
        have HE0 := Lib.hid he
        have HRI := Lib.hid (rInP_same s)
        have HST : Hid (insP (n0 - j) s = ((inP1 s).1 :: (insP (n0 - (j + 1)) (inP1 s).2).1, (insP (n0 - (j + 1)) (inP1 s).2).2)) := Lib.hid (by rw [show n0 - j = (n0 - (j + 1)) + 1 by omega, insP, if_neg (fun h => h he)])
        have HOKX := Lib.hid (rInP_ok HBS.out)
        clear he
        go_upto_region 15 with (first | ((with_reducible refine wpList_atS 11 ?_); refine wpList_store_any rfl 69 (.tmp 11) (.tmp 87) rfl wr.heap.size (inCells in0 (.slice none 0 0)).toArray rfl rfl 69 (inCells in0 (.slice none 0 0)).toArray (heap_alloc_new _ _) (rinfo_inA in0 in0_len _) rfl (in_one in0 _ rfl) ?_; intro wa ga hta))
        have hba : Below wr.heap.size wr wa := hta.below ((Below.refl _ _).alloc (Nat.le_refl _) _) (Nat.le_refl _)
        have gPa := heap_below hba gP
        have hFa := grown_of_below hba (some r5)
        have hOw := hO
        have g6a := heap_below hba g6h
        have hBa := below_then hB hB.size hba
        have hgi : base ≤ wr.heap.size := hsz
        obtain ⟨gi, hgie⟩ : ∃ g, wr.heap.size = g := ⟨_, rfl⟩
        have hgl : gi < wa.heap.size := by rw [← hgie]; exact heap_lt ga
        have hgw : wr.heap.size ≤ gi := by omega
        rw [hgie] at ga hgi ⊢
        have hsza : base ≤ wa.heap.size := by omega
        clear gP hO g6h hB hsz hta hba hgie e2
        have hI0 : wa.heap[gi]? = some (.cells (inCells { in0 with id := idsF1 0 s ++ List.replicate (32 - 0) 0 } (.slice none 0 0)).toArray 69) := ga
        go_wp2
        go_loopw [7, 12] (fun v7 v12 wq => ∃ (k aq : Nat), k ≤ 32 ∧ v12 = .int .i64 k ∧ Sim bs aq (tk1 k s) ∧ wq.heap[r5]? = some (.cells (plL A m c aq (tk1 k s).e).toArray 82) ∧ wq.heap[gi]? = some (.cells (inCells { in0 with id := idsF1 k s ++ List.replicate (32 - k) 0 } (.slice none 0 0)).toArray 69) ∧ wr.grownBy wq (some r5) ∧ wq.heap[g6]? = some (.cells (tCells ver (.slice A1 j c1) (.slice none 0 0) 0) 46) ∧ Below w.heap.size w wq ∧ base ≤ wq.heap.size) (fun _ v _ => 32 - (intOf v).toNat)
        case atStart => exact ⟨0, at_, by omega, rfl, hS, gPa, hI0, hFa, g6a, hBa, hsza⟩
        case round =>
          clear hS gPa hI0 hFa g6a hBa hsza ga
          obtain ⟨k, aq, hk, rfl, hSq, gPq, hIq, hFq, g6q, hBq, hsq⟩ := hrel
          by_cases hkl : k < 32
          · have hkl' : (k : Int) < 32 := by omega
            have hkk : (0 : Int) ≤ (k : Int) := by omega
            have hv := one_byte (tk1_bytes HBS.out k)
            go_wp2_with (first | ((with_reducible refine wpList_at 93 ?_); refine wpList_load_row rfl 82 (.tmp 5) rfl r5 rfl 82 _ _ _ gPq hU rfl (info_plA _ _ _ _ _) ?_))
            refine (number_calls _ A m c bs hm (hr.below hBq) hby aq (tk1 k s) hSq 1 (by decide) (by decide)).mono ?_
            rintro e v1 ⟨ar, rfl, hS1, hbn1⟩
            have gQ1 := heap_below hbn1 gPq
            have hBQ1 := below_then hBq hBq.size hbn1
            have hFQ1 := grown_trans hFq (grown_of_below hbn1 (some r5))
            have gIq1 := heap_below hbn1 hIq
            have g6q1 := heap_below hbn1 g6q
            have hzq1 := Nat.le_trans hsq hbn1.size
            clear gPq hBq hFq hsq hIq g6q hbn1
            go_upto_region 19 with (first | ((with_reducible refine wpList_atS 5 ?_); refine wpList_store_any rfl 82 (.tmp 5) (.tmp 96) rfl r5 (plL A m c ar ((tk1 k s).take 1).e).toArray rfl rfl 82 _ gQ1 (info_plA _ _ _ _ _) rfl (pl_all _ _ _ _ _) ?_; intro y2 gP2 htP2))
            have hBP2 := htP2.below hBQ1 h5
            have hFP2 := grown_trans hFQ1 htP2.grown
            have gIp2 := htP2.keep gIq1 (by omega)
            have g6p2 := htP2.keep g6q1 (by omega)
            have hzp2 : base ≤ y2.heap.size := by rw [htP2.size]; exact hzq1
            clear gQ1 hBQ1 hFQ1 hzq1 gIq1 g6q1 htP2
            obtain ⟨xv, hxv⟩ : ∃ x, ofLE ((tk1 k s).takeB 1) = x := ⟨_, rfl⟩
            rw [hxv] at hv ⊢
            have HXV := Lib.hid hxv
            have hwx : IntKind.u8.wrap xv = xv := by rw [IntKind.wrap_u8]; omega
            have hIE : idsF1 k s ++ [xv] = idsF1 (k + 1) s := by rw [idsF1_succ, HXV.out]
            clear hxv
            have cI3 : y2.cell? ⟨gi, k, none⟩ = some (.int .u8 0) := blk_cell gIp2 (by rw [List.getElem?_toArray]; exact in_zero_at _ k hkl (idsF1_length k s))
            have fI3 := blk_frozen gIp2 k
            have gIs3 := blk_set gIp2 k (.int .u8 xv)
            rw [in_setId _ k hkl (idsF1_length k s)] at gIs3
            rw [hIE] at gIs3
            have htI3 := turned_setCell y2 gi k (.int .u8 xv)
            have gS3 := htI3.keep gP2 (by omega)
            have g6s3 := htI3.keep g6p2 (by omega)
            have hBS3 := htI3.below hBP2 (by omega)
            have hFS3 := grown_far hFP2 htI3 hgw
            have hzs3 : base ≤ (y2.setCell ⟨gi, k, none⟩ (.int .u8 xv)).heap.size := by rw [htI3.size]; exact hzp2
            clear gP2 hBP2 hFP2 hzp2 gIp2 g6p2 htI3
            clear hIE hv
            go_upto_region 17 with fail
            clear cI3 fI3
            go_wp2
            go_roundw
            case rel => exact ⟨k + 1, ar, by omega, by go_num, hS1, gS3, gIs3, hFS3, g6s3, hBS3, hzs3⟩
            case measure => simp [intOf]; omega
          · have hkl' : ¬ (k : Int) < 32 := by omega
            obtain rfl : k = 32 := by omega
            have hil : ({ in0 with id := idsF1 32 s ++ List.replicate (32 - 32) 0 } : TIn).id.length = 32 := by simp [idsF1_length]
            rw [show idsF1 32 s ++ List.replicate (32 - 32) 0 = idsF1 32 s from List.append_nil _] at hIq hil
            have hb1 := tk1_bytes HBS.out 32
            have hb2 := PSt.text_bytes (PSt.take_bytes hb1 4)
            clear hkl
            go_wp2_with (first | ((with_reducible refine wpList_at 103 ?_); refine wpList_load_row rfl 82 (.tmp 5) rfl r5 rfl 82 _ _ _ gPq hU rfl (info_plA _ _ _ _ _) ?_))
            refine (number_calls _ A m c bs hm (hr.below hBq) hby aq (tk1 32 s) hSq 4 (by decide) (by decide)).mono ?_
            rintro e v1 ⟨a1, rfl, hS1, hbn1⟩
            have gQ1 := heap_below hbn1 gPq
            have hBQ1 := below_then hBq hBq.size hbn1
            have hFQ1 := grown_trans hFq (grown_of_below hbn1 (some r5))
            have gIq1 := heap_below hbn1 hIq
            have g6q1 := heap_below hbn1 g6q
            have hzq1 := Nat.le_trans hsq hbn1.size
            clear gPq hBq hFq hsq hIq g6q hbn1
            go_upto_region 21 with (first | ((with_reducible refine wpList_atS 5 ?_); refine wpList_store_any rfl 82 (.tmp 5) (.tmp 106) rfl r5 (plL A m c a1 ((tk1 32 s).take 4).e).toArray rfl rfl 82 _ gQ1 (info_plA _ _ _ _ _) rfl (pl_all _ _ _ _ _) ?_; intro y2 gP2 htP2))
            have hBP2 := htP2.below hBQ1 h5
            have hFP2 := grown_trans hFQ1 htP2.grown
            have gIp2 := htP2.keep gIq1 (by omega)
            have g6p2 := htP2.keep g6q1 (by omega)
            have hzp2 : base ≤ y2.heap.size := by rw [htP2.size]; exact hzq1
            clear gQ1 hBQ1 hFQ1 hzq1 gIq1 g6q1 htP2
            have r1 := le4_takeB hb1
            have hwa : IntKind.u32.wrap (ofLE ((tk1 32 s).takeB 4)) = ofLE ((tk1 32 s).takeB 4) := by rw [IntKind.wrap_u32]; omega
            clear r1
            have cI3 : y2.cell? ⟨gi, 32, none⟩ = some (.int .u32 0) := blk_cell gIp2 (by rw [List.getElem?_toArray]; exact inCells_at hil _ 0)
            have fI3 := blk_frozen gIp2 32
            have gIs3 := blk_set gIp2 32 (.int .u32 (ofLE ((tk1 32 s).takeB 4)))
            rw [in_set32 hil] at gIs3
            have htI3 := turned_setCell y2 gi 32 (.int .u32 (ofLE ((tk1 32 s).takeB 4)))
            have gS3 := htI3.keep gP2 (by omega)
            have g6s3 := htI3.keep g6p2 (by omega)
            have hBS3 := htI3.below hBP2 (by omega)
            have hFS3 := grown_far hFP2 htI3 hgw
            have hzs3 : base ≤ (y2.setCell ⟨gi, 32, none⟩ (.int .u32 (ofLE ((tk1 32 s).takeB 4)))).heap.size := by rw [htI3.size]; exact hzp2
            clear gP2 hBP2 hFP2 hzp2 gIp2 g6p2 htI3
            go_upto_region 22 with fail
            clear hwa cI3 fI3
            go_wp2_with (first | ((with_reducible refine wpList_at 111 ?_); refine wpList_load_row rfl 82 (.tmp 5) rfl r5 rfl 82 _ _ _ gS3 hU rfl (info_plA _ _ _ _ _) ?_))
            refine (text_calls07 _ A m c bs hmc hm (hr.below hBS3) hby a1 ((tk1 32 s).take 4) hS1).mono ?_
            rintro e v4 ⟨a2, rfl, hS4, hbn4⟩
            have gQ4 := heap_below hbn4 gS3
            have hBQ4 := below_then hBS3 hBS3.size hbn4
            have hFQ4 := grown_trans hFS3 (grown_of_below hbn4 (some r5))
            have gIq4 := heap_below hbn4 gIs3
            have g6q4 := heap_below hbn4 g6s3
            have hzq4 := Nat.le_trans hzs3 hbn4.size
            clear gS3 hBS3 hFS3 hzs3 gIs3 g6s3 hbn4
            have cI5 : v4.cell? ⟨gi, 33, none⟩ = some (.string ⟨#[]⟩) := blk_cell gIq4 (by rw [List.getElem?_toArray]; exact inCells_at hil _ 1)
            have fI5 := blk_frozen gIq4 33
            have gIs5 := blk_set gIq4 33 (.string (strOfNums ((tk1 32 s).take 4).textB))
            rw [in_set33 hil] at gIs5
            have htI5 := turned_setCell v4 gi 33 (.string (strOfNums ((tk1 32 s).take 4).textB))
            have gS5 := htI5.keep gQ4 (by omega)
            have g6s5 := htI5.keep g6q4 (by omega)
            have hBS5 := htI5.below hBQ4 (by omega)
            have hFS5 := grown_far hFQ4 htI5 hgw
            have hzs5 : base ≤ (v4.setCell ⟨gi, 33, none⟩ (.string (strOfNums ((tk1 32 s).take 4).textB))).heap.size := by rw [htI5.size]; exact hzq4
            clear gQ4 hBQ4 hFQ4 hzq4 gIq4 g6q4 htI5
            go_upto_region 23 with (first | ((with_reducible refine wpList_atS 5 ?_); refine wpList_store_any rfl 82 (.tmp 5) (.tmp 114) rfl r5 (plL A m c a2 (((tk1 32 s).take 4).text).e).toArray rfl rfl 82 _ gS5 (info_plA _ _ _ _ _) rfl (pl_all _ _ _ _ _) ?_; intro y6 gP6 htP6))
            have hBP6 := htP6.below hBS5 h5
            have hFP6 := grown_trans hFS5 htP6.grown
            have gIp6 := htP6.keep gIs5 (by omega)
            have g6p6 := htP6.keep g6s5 (by omega)
            have hzp6 : base ≤ y6.heap.size := by rw [htP6.size]; exact hzs5
            clear gS5 hBS5 hFS5 hzs5 gIs5 g6s5 htP6 cI5 fI5
            go_wp2_with (first | ((with_reducible refine wpList_at 117 ?_); refine wpList_load_row rfl 82 (.tmp 5) rfl r5 rfl 82 _ _ _ gP6 hU rfl (info_plA _ _ _ _ _) ?_))
            refine (number_calls _ A m c bs hm (hr.below hBP6) hby a2 (((tk1 32 s).take 4).text) hS4 4 (by decide) (by decide)).mono ?_
            rintro e v7 ⟨a3, rfl, hS7, hbn7⟩
            have gQ7 := heap_below hbn7 gP6
            have hBQ7 := below_then hBP6 hBP6.size hbn7
            have hFQ7 := grown_trans hFP6 (grown_of_below hbn7 (some r5))
            have gIq7 := heap_below hbn7 gIp6
            have g6q7 := heap_below hbn7 g6p6
            have hzq7 := Nat.le_trans hzp6 hbn7.size
            clear gP6 hBP6 hFP6 hzp6 gIp6 g6p6 hbn7
            go_upto_region 24 with (first | ((with_reducible refine wpList_atS 5 ?_); refine wpList_store_any rfl 82 (.tmp 5) (.tmp 120) rfl r5 (plL A m c a3 (((tk1 32 s).take 4).text.take 4).e).toArray rfl rfl 82 _ gQ7 (info_plA _ _ _ _ _) rfl (pl_all _ _ _ _ _) ?_; intro y8 gP8 htP8))
            have hBP8 := htP8.below hBQ7 h5
            have hFP8 := grown_trans hFQ7 htP8.grown
            have gIp8 := htP8.keep gIq7 (by omega)
            have g6p8 := htP8.keep g6q7 (by omega)
            have hzp8 : base ≤ y8.heap.size := by rw [htP8.size]; exact hzq7
            clear gQ7 hBQ7 hFQ7 hzq7 gIq7 g6q7 htP8
            have r2 := le4_takeB hb2
            have hwb : IntKind.u32.wrap (ofLE (((tk1 32 s).take 4).text.takeB 4)) = ofLE (((tk1 32 s).take 4).text.takeB 4) := by rw [IntKind.wrap_u32]; omega
            clear r2
            have cI9 : y8.cell? ⟨gi, 34, none⟩ = some (.int .u32 0) := blk_cell gIp8 (by rw [List.getElem?_toArray]; exact inCells_at hil _ 2)
            have fI9 := blk_frozen gIp8 34
            have gIs9 := blk_set gIp8 34 (.int .u32 (ofLE (((tk1 32 s).take 4).text.takeB 4)))
            rw [in_set34 hil] at gIs9
            have htI9 := turned_setCell y8 gi 34 (.int .u32 (ofLE (((tk1 32 s).take 4).text.takeB 4)))
            have gS9 := htI9.keep gP8 (by omega)
            have g6s9 := htI9.keep g6p8 (by omega)
            have hBS9 := htI9.below hBP8 (by omega)
            have hFS9 := grown_far hFP8 htI9 hgw
            have hzs9 : base ≤ (y8.setCell ⟨gi, 34, none⟩ (.int .u32 (ofLE (((tk1 32 s).take 4).text.takeB 4)))).heap.size := by rw [htI9.size]; exact hzp8
            clear gP8 hBP8 hFP8 hzp8 gIp8 g6p8 htI9
            go_upto_region 25 with fail
            clear hwb cI9 fI9
            have hx1 : (y8.setCell ⟨gi, 34, none⟩ (.int .u32 (ofLE (((tk1 32 s).take 4).text.takeB 4)))).heap[gi]? = some (.cells (inCells (rInP s).1 (.slice none 0 0)).toArray 69) := gIs9
            have hO8 : InOwnR _ base (.slice A1 j c1) j acc := RK.Own.grown_ hOw hFS9 (fun q e => by cases e; omega)
            have hg8 := g6s9
            have hP8 := gS9
            have hB8 := hBS9
            have hz8 := hzs9
            clear gS9 hBS9 hFS9 hzs9 gIs9 g6s9
            refine wp_gen (q := fun W => W.heap[g6]? = some (.cells (tCells ver (.slice A1 j c1) (.slice none 0 0) 0) 46) ∧ W.heap[gi]? = some (.cells (inCells (rInP s).1 (.slice none 0 0)).toArray 69) ∧ W.heap[r5]? = some (.cells (plL A m c a3 (rInP s).2.e).toArray 82) ∧ InOwnR W base (.slice A1 j c1) j acc ∧ base ≤ W.heap.size ∧ Below w.heap.size w W) ⟨hg8, hx1, hP8, hO8, hz8, hB8⟩ (fun W hw => ?_)
            clear hg8 hx1 hP8 hO8 hz8 hB8 hOw
            obtain ⟨hg8, hx1, hP8, hO8, hz8, hB8⟩ := hw
            have d8 := blk_cell hg8 (i := 1) (v := .slice A1 j c1) rfl
            have hok := HOKX.out
            have hidl := hok.idl
            have hjl : j + 1 ≤ 1025 := by omega
            have hq1 : InOwnR (W.alloc (.cells (inCells (rInP s).1 (.slice none 0 0)).toArray 69)) base (.slice A1 j c1) j acc := RK.Own.alloc hO8 _
            have hq2 : in0K.C (fun _ => True) (W.alloc (.cells (inCells (rInP s).1 (.slice none 0 0)).toArray 69)) (some ⟨W.heap.size, 0, none⟩) 1 [(rInP s).1] := in0K_one (heap_alloc_new _ _) hok rfl
            have hq3 : base ≤ (W.alloc (.cells (inCells (rInP s).1 (.slice none 0 0)).toArray 69)).heap.size := by simp; omega
            have hq4 : (j + 1) * 88 ≤ 140737488355328 := by omega
            have hq5 : j + 1 ≤ maxLen := by unfold maxLen; omega
            have hzi := zinfo_in07
            have hzc : (Value.agg (inCells in0 (.slice none 0 0)).toArray).cells.size = in0K.sz := rfl
            have hq6 := heap_alloc_new W (.cells (inCells (rInP s).1 (.slice none 0 0)).toArray 69)
            have hg8a := blk_alloc hg8 (.cells (inCells (rInP s).1 (.slice none 0 0)).toArray 69)
            go_upto_region 13 with (first
              | (refine wpList_load_row rfl 69 (.tmp 11) rfl gi rfl _ _ _ _ hx1 hUI rfl (rinfo_inA _ hidl _) ?_)
              | (refine wpList_build1 rfl 43 69 _ rfl hUS _ 36 88 zinfo_in07 (by decide) (by decide) (inCells (rInP s).1 (.slice none 0 0)) (inCells_length hidl _) rfl rfl ?_)
              | (refine RK.wpList_appK in0K _ rfl (.tmp 125) (.tmp 127) 43 rfl (fun _ => False) base 69 _ 88 hUS hzi hzc (by decide) (.slice A1 j c1) j acc rfl hq1 (fun k h => h.elim) _ 1 1 [(rInP s).1] rfl (fun _ => True) hq2 (fun _ _ h => h) (j + 1) _ rfl rfl hq5 hq4 hq3 ?_
                 intro A9 c9 w9 hO9 hG9 hat9
                 have hg9 := heap_grown hG9 hg8a (fun e => by have := (RK.Own.lt hO8 _ e.symm).1; omega)
                 have d9 := blk_cell hg9 (i := 1) (v := .slice A1 j c1) rfl
                 have f9 := blk_frozen hg9 1
                 have hs9 := Lib.hid hG9.size
                 have HG9 := Lib.hid hG9
                 have hlo9 : Hid (∀ q, (Value.slice A1 j c1).ownBlock = some q → base ≤ q) := Lib.hid fun q hq => (RK.Own.lt hO8 q hq).1
                 clear hq1 hq2 hq3 hq4 hq5 hzi hzc hq6 hg8a d8 hg8 hx1 hO8 hG9 hat9
                 refine wp_stopper ?_))
            refine Lib.hid ?_
            go_upto_region 13 with fail
            have hT9 := turned_setCell w9 g6 1 (.slice A9 (j + 1) c9)
            have hWa : Below W.heap.size W (W.alloc (.cells (inCells (rInP s).1 (.slice none 0 0)).toArray 69)) := (Below.refl _ _).alloc (Nat.le_refl _) _
            have hPa := heap_below hWa hP8
            have hr5s : r5 < W.heap.size := by omega
            have hP9 := heap_grown HG9.out hPa (fun e => by have := hlo9.out r5 e.symm; omega)
            have hP10 := hT9.keep hP9 (by omega)
            have hO10 := RK.Own.grown_ hO9 hT9.grown (fun k e => by cases e; omega)
            have hg10 := blk_set hg9 1 (.slice A9 (j + 1) c9)
            have hBa := below_then hB8 hB8.size hWa
            have hB9 := hBa.grown HG9.out hBa.size (fun k e => by have := hlo9.out k e; omega)
            have hB10 := hT9.below hB9 (by omega)
            have hs10 : base ≤ (w9.setCell ⟨g6, 1, none⟩ (.slice A9 (j + 1) c9)).heap.size := by have h1 := hs9.out; rw [hT9.size]; simp at h1; omega
            have HN := ins_step (by omega) HE0.out HR.out.1 HR.out.2
            clear hP8 hz8 hB8 hWa hPa hP9 hO9 hg9 hT9 hBa hB9 HG9 hs9 hlo9 d9 f9
            go_wp2
            go_roundw
            case rel => exact ⟨j + 1, a3, (rInP s).2, acc ++ [(rInP s).1], A9, c9, by omega, by go_num, Lib.hid HN, Lib.hid (rInP_bytes HBS.out), hS7, hP10, hO10, hg10, hB10, hs10⟩
            case measure => simp [intOf]; omega
      · have he1 : (s.e == 0) = false := beq_eq_false_iff_ne.2 he
        have hstop : insP (n0 - j) s = ([], s) := by rw [show n0 - j = (n0 - (j + 1)) + 1 by omega, insP, if_pos he]
        have X1 := HR.out.1
        rw [hstop] at X1
        have HX1 := Lib.hid X1
        have HEN := Lib.hid he
        clear X1 he hstop
        go_wp2
        exact HE.out _ _ _ _ _ _ _ _ _ _ _ _ _ _ _ _ _ _ _ _ _ _ _ _ _ _ _ _ _ _ _ _ _ _ _ _ _ _ _ _ _ _ _ _ _ _ _ _ _ _ _ _ _ _ _ _ _ A1 j c1 wr at_ s acc HX1.out (fun h => absurd h HEN.out) HBS.out ⟨hS, gP, hO, g6h, hB, hsz, hj⟩
    · have hlt' : decide ((j : Int) < (n0 : Int)) = false := decide_eq_false (by omega)
      have hend : insP (n0 - j) s = ([], s) := by rw [show n0 - j = 0 by omega, insP]
      have X1 := HR.out
      rw [hend, List.append_nil] at X1
      have HX1 := Lib.hid X1
      clear X1 hend
      go_wp2
      exact HE.out _ _ _ _ _ _ _ _ _ _ _ _ _ _ _ _ _ _ _ _ _ _ _ _ _ _ _ _ _ _ _ _ _ _ _ _ _ _ _ _ _ _ _ _ _ _ _ _ _ _ _ _ _ _ _ _ _ A1 j c1 wr at_ s acc HX1.out.1 HX1.out.2 HBS.out ⟨hS, gP, hO, g6h, hB, hsz, hj⟩
end Go.Proofs.Ytjlkakggmfmfiaa
