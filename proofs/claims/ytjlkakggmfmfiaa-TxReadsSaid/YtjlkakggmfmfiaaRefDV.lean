/- The reference's Decode: the witnesses of all inputs. -/
import Derived.Test.YtjlkakggmfmfiaaRefDW
set_option maxRecDepth 100000
set_option linter.unusedVariables false
namespace Go.Proofs.Ytjlkakggmfmfiaa
open Go Go.RowKit
theorem set_same_row {vs : List Value} {k : Nat} {v : Value} (hvk : vs[k]? = some v) : vs.set k v = vs := by
  apply List.ext_getElem?
  intro i
  rw [List.getElem?_set]
  split
  · subst_vars
    split
    · exact hvk.symm
    · rename_i h; exact (h (List.getElem?_eq_some_iff.1 hvk).1).elim
  · rfl
theorem witst_step {w9 wr : World} {base base9 r gi k m9 c9 : Nat} {A9 : Option Addr} {xs ys : List TIn} {vs : List Value} {x : TIn} {acc : List ByteArray} (HW : WitStR wr base r gi k xs ys vs) (hk : k < xs.length) (hxk : xs[k]? = some x) (hxo : x.Ok) (hrb : r < base9) (hgb : gi < base9) (hb9 : base ≤ base9)
    (hO9 : StrOwn w9 base9 (.slice A9 m9 c9) m9 acc) (hR9 : RowWR w9 gi xs (vs.set k (.slice A9 m9 c9))) (hkk : ∀ q, q < wr.heap.size → q ≠ r → q ≠ gi → w9.heap[q]? = wr.heap[q]?) :
    WitStR w9 base r gi (k + 1) xs (ys ++ [{ x with wit := acc }]) (vs.set k (.slice A9 m9 c9)) := by
  have hC9 : RK.str.C (fun b => base ≤ b ∧ b ≠ r ∧ b ≠ gi) w9 A9 m9 acc := RK.Own.C_ hO9 (fun _ h => h.elim) (fun b hb => by have := (RK.Own.lt hO9 b hb).1; refine ⟨?_, ?_, ?_⟩ <;> omega)
  have hle9 := RK.Own.le_ hO9
  have hyo : ({ x with wit := acc } : TIn).Ok := ⟨hxo.idl, hxo.idb, hxo.o0, hxo.o1, hxo.s0, hxo.s1, hxo.sc, hC9.all_str⟩
  obtain ⟨q1, q2, q3, q4, q5⟩ := HW
  refine ⟨by rw [List.length_set]; exact q1, by rw [List.length_append, q2]; rfl, hR9, fun i x' y v hx' hy hv => ?_, fun i hi hiN => ?_⟩
  · rcases Nat.lt_trichotomy i k with hik | rfl | hik
    · rw [List.getElem?_append_left (by omega)] at hy
      rw [List.getElem?_set_ne (by omega)] at hv
      obtain ⟨cs, hK, hcs⟩ := q4 i x' y v hx' hy hv
      exact ⟨cs, inK.move (fun b hb hlt => hkk b hlt hb.2.1 hb.2.2) hK, hcs⟩
    · rw [List.getElem?_append_right (by omega), q2, Nat.sub_self] at hy
      rw [List.getElem?_set_self (by omega)] at hv
      obtain rfl : ({ x with wit := acc } : TIn) = y := by simpa using hy
      obtain rfl : Value.slice A9 m9 c9 = v := Option.some.inj hv
      obtain rfl : x = x' := Option.some.inj (hxk.symm.trans hx')
      exact ⟨_, ⟨A9, m9, c9, rfl, hyo, hle9.1, hle9.2, hC9⟩, rfl⟩
    · rw [List.getElem?_eq_none (by rw [List.length_append, q2, List.length_singleton]; omega)] at hy
      cases hy
  · rw [List.getElem?_set_ne (by omega)]
    exact q5 i (by omega) hiN
noncomputable def rdB6 : Code := ((Try.f20.body.bind (findBk 6)).getD .skip)
set_option maxHeartbeats 16000000 in
theorem rd_wits {u0 u1 u2 u3 u4 u7 u8 u9 u10 u11 u12 u13 u14 u15 u16 u17 u18 u19 u20 u21 u22 u23 u24 u25 u26 u27 u28 u29 u30 u31 u32 u33 u34 u35 u36 u37 u38 u39 u40 u41 u42 u43 u44 u45 u46 u47 u48 u49 u50 u51 u52 u53 u54 u55 u56 u57 u58 u59 u60 u61 u62 u63 u64 u65 u66 u67 u68 u69 u70 u71 u72 u73 u74 u75 u76 u77 u78 u79 u80 u81 u82 u83 u84 u85 u86 u87 u88 u89 u90 u91 u92 u93 u94 u95 u96 u97 u98 u99 u100 u101 u102 u103 u104 u105 u106 u107 u108 u109 u110 u111 u112 u113 u114 u115 u116 u117 u118 u119 u120 u121 u122 u123 u124 u125 u126 u127 u128 u129 u130 u131 u132 u133 u134 u135 u136 u137 u138 u139 u140 u141 u142 u143 u144 u145 u146 u147 u148 u149 u150 u151 u152 u153 u154 u155 u156 u157 u158 u159 u160 u161 u162 u163 u164 u165 u166 u167 u168 u171 u172 u173 u174 u175 u176 u177 u178 u179 u180 u181 u182 u183 u184 u185 u186 u187 u188 u189 u190 u191 u192 u193 u194 u195 u196 u197 u198 u199 u200 u201 u202 u203 u204 u205 u206 u207 u208 u209 u210 u211 u212 u213 u214 u215 u216 u217 u218 u219 u220 u221 u222 u223 u224 u225 u226 u227 u228 u229 u230 u231 u232 u233 u234 u235 u236 u237 u238 u239 u240 u241 u242 u243 u244 u245 u246 u247 u248 u249 u250 u251 u252 u253 u254 u255 u256 u257 : Value} (w wr0 : World) (A0 : Option Addr) (m0 c0 : Nat) (bs : List Int) (hm0 : m0 ≤ 1000000) (hmc0 : m0 ≤ c0) (hr : Rd w A0 m0 (nums .u8 bs)) (hby : Bytes bs) (r5 g6 gi base N c at0 : Nat) (ver : Int) (v2 : Value) (xs : List TIn) (p0 : PSt) (h5 : w.heap.size ≤ r5) (h56 : r5 < g6) (h6g : g6 < gi) (hgb : gi < base) (hbase : base ≤ wr0.heap.size)
    (hN : xs.length = N) (hNc : N ≤ c) (hcm : c ≤ maxLen) (hok : ∀ x ∈ xs, x.Ok) (hN4 : N ≤ 1024)
    (hS0 : Sim bs at0 p0) (hb0s : Bytes p0.bs) (gP0 : wr0.heap[r5]? = some (.cells (plL A0 m0 c0 at0 p0.e).toArray 82)) (hg0 : wr0.heap[g6]? = some (.cells (tCells ver (.slice (some ⟨gi, 0, none⟩) N c) v2 0) 46)) (hR0 : RowWR wr0 gi xs (List.replicate N (.slice none 0 0))) (hb0 : Below w.heap.size w wr0) (Q0 : Exit → Act → World → Prop)
    (hexit : ∀ x9 x15 x16 x17 x170 x171 x172 x173 x174 x175 x176 x177 x178 x179 x180 x181 x182 x183 x184 x185 x186 x187 x188 x189 x190 x191 x192 x193 x194 x195 x196 x197 x198 x199 x200 x201 x202 x203 x204 x205 x206 x207 vs ys wr p at_, allW xs p0 = (ys, p) → Bytes p.bs → Sim bs at_ p → wr.heap[r5]? = some (.cells (plL A0 m0 c0 at_ p.e).toArray 82) → WitStR wr base r5 gi N xs ys vs → wr.heap[g6]? = some (.cells (tCells ver (.slice (some ⟨gi, 0, none⟩) N c) v2 0) 46) → Below w.heap.size w wr → Two0 wr0 r5 gi base wr → Q0 .normal ⟨#[u0, u1, u2, u3, u4, .pointer (some ⟨r5, 0, none⟩), .pointer (some ⟨g6, 0, none⟩), u7, u8, x9, u10, u11, u12, u13, u14, x15, x16, x17, u18, u19, u20, u21, u22, u23, u24, u25, u26, u27, u28, u29, u30, u31, u32, u33, u34, u35, u36, u37, u38, u39, u40, u41, u42, u43, u44, u45, u46, u47, u48, u49, u50, u51, u52, u53, u54, u55, u56, u57, u58, u59, u60, u61, u62, u63, u64, u65, u66, u67, u68, u69, u70, u71, u72, u73, u74, u75, u76, u77, u78, u79, u80, u81, u82, u83, u84, u85, u86, u87, u88, u89, u90, u91, u92, u93, u94, u95, u96, u97, u98, u99, u100, u101, u102, u103, u104, u105, u106, u107, u108, u109, u110, u111, u112, u113, u114, u115, u116, u117, u118, u119, u120, u121, u122, u123, u124, u125, u126, u127, u128, u129, u130, u131, u132, u133, u134, u135, u136, u137, u138, u139, u140, u141, u142, u143, u144, u145, u146, u147, u148, u149, u150, u151, u152, u153, u154, u155, u156, u157, u158, u159, u160, u161, u162, u163, u164, u165, u166, u167, u168, .int .i64 N, x170, x171, x172, x173, x174, x175, x176, x177, x178, x179, x180, x181, x182, x183, x184, x185, x186, x187, x188, x189, x190, x191, x192, x193, x194, x195, x196, x197, x198, x199, x200, x201, x202, x203, x204, x205, x206, x207, u208, u209, u210, u211, u212, u213, u214, u215, u216, u217, u218, u219, u220, u221, u222, u223, u224, u225, u226, u227, u228, u229, u230, u231, u232, u233, u234, u235, u236, u237, u238, u239, u240, u241, u242, u243, u244, u245, u246, u247, u248, u249, u250, u251, u252, u253, u254, u255, u256, u257], []⟩ wr) :
    Code.wp Try.prog rdB6 Q0 ⟨#[u0, u1, u2, u3, u4, .pointer (some ⟨r5, 0, none⟩), .pointer (some ⟨g6, 0, none⟩), u7, u8, u9, u10, u11, u12, u13, u14, u15, u16, u17, u18, u19, u20, u21, u22, u23, u24, u25, u26, u27, u28, u29, u30, u31, u32, u33, u34, u35, u36, u37, u38, u39, u40, u41, u42, u43, u44, u45, u46, u47, u48, u49, u50, u51, u52, u53, u54, u55, u56, u57, u58, u59, u60, u61, u62, u63, u64, u65, u66, u67, u68, u69, u70, u71, u72, u73, u74, u75, u76, u77, u78, u79, u80, u81, u82, u83, u84, u85, u86, u87, u88, u89, u90, u91, u92, u93, u94, u95, u96, u97, u98, u99, u100, u101, u102, u103, u104, u105, u106, u107, u108, u109, u110, u111, u112, u113, u114, u115, u116, u117, u118, u119, u120, u121, u122, u123, u124, u125, u126, u127, u128, u129, u130, u131, u132, u133, u134, u135, u136, u137, u138, u139, u140, u141, u142, u143, u144, u145, u146, u147, u148, u149, u150, u151, u152, u153, u154, u155, u156, u157, u158, u159, u160, u161, u162, u163, u164, u165, u166, u167, u168, .int .i64 N, .int .i64 0, u171, u172, u173, u174, u175, u176, u177, u178, u179, u180, u181, u182, u183, u184, u185, u186, u187, u188, u189, u190, u191, u192, u193, u194, u195, u196, u197, u198, u199, u200, u201, u202, u203, u204, u205, u206, u207, u208, u209, u210, u211, u212, u213, u214, u215, u216, u217, u218, u219, u220, u221, u222, u223, u224, u225, u226, u227, u228, u229, u230, u231, u232, u233, u234, u235, u236, u237, u238, u239, u240, u241, u242, u243, u244, u245, u246, u247, u248, u249, u250, u251, u252, u253, u254, u255, u256, u257], []⟩ wr0 := by
  have HE := Lib.hid hexit
  clear hexit
  have hU := Try.underlying82
  have hW0 : WitStR wr0 base r5 gi 0 xs [] (List.replicate N (.slice none 0 0)) := ⟨by rw [List.length_replicate, hN], rfl, hR0, fun i x y v _ h => by simp at h, fun i _ h => by rw [List.getElem?_replicate, if_pos (by omega)]⟩
  have hT0 : Two0 wr0 r5 gi base wr0 := fun _ _ _ _ => rfl
  conv => arg 2; whnf
  go_wp2
  go_loopw [170] (fun v170 wr => ∃ (k at_ : Nat) (p : PSt) (ys : List TIn) (vs : List Value), k ≤ N ∧ v170 = .int .i64 k ∧ Hid (allW xs p0 = (ys ++ (allW (xs.drop k) p).1, (allW (xs.drop k) p).2)) ∧ Hid (Bytes p.bs) ∧ Sim bs at_ p ∧ wr.heap[r5]? = some (.cells (plL A0 m0 c0 at_ p.e).toArray 82) ∧ Hid (WitStR wr base r5 gi k xs ys vs) ∧ wr.heap[g6]? = some (.cells (tCells ver (.slice (some ⟨gi, 0, none⟩) N c) v2 0) 46) ∧ Below w.heap.size w wr ∧ base ≤ wr.heap.size ∧ Hid (Two0 wr0 r5 gi base wr)) (fun v _ => N - (intOf v).toNat)
  case atStart => exact ⟨0, at0, p0, [], _, by omega, rfl, Lib.hid (by simp), Lib.hid hb0s, hS0, gP0, Lib.hid hW0, hg0, hb0, hbase, Lib.hid hT0⟩
  case round =>
    clear hS0 hW0 hg0 hb0 hbase hT0 hR0 gP0 hb0s
    obtain ⟨k, at_, p, ys, vs, hk, rfl, HR, HBS, hS, gP, HW, hg6, hB, hbs, HT⟩ := hrel
    by_cases hlt : k < N
    · have hlt' : (k : Int) < (N : Int) := by omega
      have hF0 := World.grownBy.refl wr (some r5)
      have hbsr := hbs
      go_wp2_with (first | ((with_reducible refine wpList_at 174 ?_); refine wpList_load_row rfl 82 (.tmp 5) rfl r5 rfl 82 _ _ _ gP hU rfl (info_plA _ _ _ _ _) ?_))
      refine (count_calls07 _ A0 m0 c0 bs hm0 (hr.below hB) hby at_ p hS 100 (by decide)).mono ?_
      rintro e v1 ⟨a1, rfl, hS1, hbn1⟩
      have gQ1 := heap_below hbn1 gP
      have hBQ1 := below_then hB hB.size hbn1
      have hFQ1 := grown_trans hF0 (grown_of_below hbn1 (some r5))
      have g6q1 := heap_below hbn1 hg6
      have hzq1 := Nat.le_trans hbs hbn1.size
      clear gP hB hF0 hbs hg6 hbn1
      go_upto_region 40 with (first | ((with_reducible refine wpList_atS 5 ?_); refine wpList_store_any rfl 82 (.tmp 5) (.tmp 177) rfl r5 (plL A0 m0 c0 a1 (p.count 100).e).toArray rfl rfl 82 _ gQ1 (info_plA _ _ _ _ _) rfl (pl_all _ _ _ _ _) ?_; intro y2 gP2 htP2))
      have hBP2 := htP2.below hBQ1 h5
      have hFP2 := grown_trans hFQ1 htP2.grown
      have g6p2 := htP2.keep g6q1 (by omega)
      have hzp2 : base ≤ y2.heap.size := by rw [htP2.size]; exact hzq1
      clear gQ1 hBQ1 hFQ1 hzq1 g6q1 htP2
      go_upto_block 8 with fail
      have hgi : gi < wr.heap.size := by omega
      have hcv : p.countV 100 ≤ 100 := PSt.countV_le p 100
      have hvk : vs[k]? = some (.slice none 0 0) := HW.out.2.2.2.2 k (Nat.le_refl _) (by omega)
      have hR3 : RowWR y2 gi xs (vs.set k (.slice none 0 0)) := by
        rw [set_same_row hvk]
        exact HW.out.2.2.1.move (hFP2.block gi hgi (fun e => by have := Option.some.inj e; omega))
      have HF3 := Lib.hid hFP2
      refine rd_wit w y2 A0 m0 c0 bs hm0 hmc0 hr hby r5 g6 gi y2.heap.size (p.countV 100) k N c a1 ver v2 xs vs (p.count 100) hcv h5 h56 h6g (by have := hFP2.size; omega) (Nat.le_refl _) (by omega) hN hNc hcm HW.out.1 (fun x hx => (hok x hx).idl) hS1 (PSt.count_bytes HBS.out 100) gP2 g6p2 hR3 hBP2 _ ?_
      intro y_0 y_1 y_2 y_3 y_4 y_5 y_6 y_7 y_8 y_9 y_10 y_11 y_12 y_13 y_14 y_15 y_16 y_17 y_18 y_19 y_20 y_21 y_22 y_23 y_24 y_25 y_26 y_27 y_28 y_29 y_30 A9 m9 c9 w9 p9 at9 acc hp9 hb9 hrel9
      obtain ⟨hS9, gP9, hO9, hR9, hg9, hB9, hbs9, hT9⟩ := hrel9
      have hs3 := HF3.out.size
      have hxk : xs[k]? = some (xs[k]'(by omega)) := List.getElem?_eq_getElem (by omega)
      have hdrop : xs.drop k = (xs[k]'(by omega)) :: xs.drop (k + 1) := List.drop_eq_getElem_cons (by omega)
      obtain ⟨x, hx⟩ : ∃ x, xs[k]'(by omega) = x := ⟨_, rfl⟩
      rw [hx] at hxk hdrop
      have hkk : ∀ q, q < wr.heap.size → q ≠ r5 → q ≠ gi → w9.heap[q]? = wr.heap[q]? := fun q hq h1 h2 => (hT9.out q (by omega) h1 h2).trans (HF3.out.block q hq (fun e => h1 (Option.some.inj e)))
      have hall : allW xs p0 = ((ys ++ [{ x with wit := acc }]) ++ (allW (xs.drop (k + 1)) p9).1, (allW (xs.drop (k + 1)) p9).2) := by
        have h1 : witP1 p = (acc, p9) := hp9
        rw [HR.out, hdrop, allW, h1, List.append_assoc]
        rfl
      have hW9 := witst_step HW.out (by omega) hxk (hok x (List.mem_of_getElem? hxk)) (show r5 < y2.heap.size by omega) (show gi < y2.heap.size by omega) (show base ≤ y2.heap.size by omega) hO9 hR9 hkk
      have hT10 : Two0 wr0 r5 gi base w9 := fun q hq h1 h2 => (hkk q (by omega) h1 h2).trans (HT.out q hq h1 h2)
      have HALL := Lib.hid hall
      have HW9 := Lib.hid hW9
      have HT10 := Lib.hid hT10
      have HB9 := Lib.hid hb9
      have hbs10 : base ≤ w9.heap.size := by omega
      clear hall hW9 hT10 hO9 hR9 hT9 hkk hdrop hxk hp9 hvk hR3 hx HR HT HW hb9 gP2 g6p2 hBP2 hFP2 hzp2 hS1 HF3 hs3
      go_wp2
      go_roundw
      case rel => exact ⟨k + 1, at9, p9, _, _, by omega, by go_num, HALL, HB9, hS9, gP9, HW9, hg9, hB9, hbs10, HT10⟩
      case measure => simp [intOf]; omega
    · have hlt' : ¬ ((k : Int) < (N : Int)) := by omega
      obtain rfl : k = N := by omega
      have hend : allW xs p0 = (ys, p) := by
        rw [HR.out, List.drop_of_length_le (by omega), allW, List.append_nil]
      have HX1 := Lib.hid hend
      clear hend
      go_wp2
      exact HE.out _ _ _ _ _ _ _ _ _ _ _ _ _ _ _ _ _ _ _ _ _ _ _ _ _ _ _ _ _ _ _ _ _ _ _ _ _ _ _ _ _ _ vs ys wr p at_ HX1.out HBS.out hS gP HW.out hg6 hB HT.out
end Go.Proofs.Ytjlkakggmfmfiaa
