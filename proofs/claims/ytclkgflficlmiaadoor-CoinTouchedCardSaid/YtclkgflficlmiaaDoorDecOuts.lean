/- tx.Decode: the outputs. -/
import Derived.Test.YtclkgflficlmiaaDoorDecIns
set_option maxRecDepth 100000
set_option linter.unusedVariables false
namespace Go.Proofs.YtclkgflficlmiaaDoor
open Go Go.RowKit
/-- An output's cells. -/
abbrev outCells (x : TOut) : List Value := [.int .i64 x.coins, .string x.script]
theorem zinfo_out : (Tryd.prog.info? 62).map (fun i => (i.zero, i.size, i.bytes)) = some (some (.agg #[.int .i64 0, .string ⟨#[]⟩]), 2, 24) := by kernel_rfl
theorem info_outA (x : TOut) : (Tryd.prog.info? 62).map (·.size) = some (outCells x).toArray.size := by rw [List.size_toArray]; kernel_rfl
theorem outK_one {w : World} {g : Nat} {t : TypeId} {fz : Nat × Nat} {x : TOut} (h : w.heap[g]? = some (.cells (outCells x).toArray t fz)) (hx : x.Ok) : outK.C (fun _ => True) w (some ⟨g, 0, none⟩) 1 [x] := by
  refine ⟨rfl, fun _ => ⟨g, 0, rfl, trivial, heap_lt h, fun i y hy => ?_⟩⟩
  obtain rfl : i = 0 := by have := (List.getElem?_eq_some_iff.1 hy).1; simp at this; omega
  obtain rfl : x = y := by simpa using hy
  refine ⟨_, ⟨rfl, hx⟩, fun j v hv => ?_⟩
  rw [show 0 + 0 * outK.sz + j = j by omega]
  exact blk_cell h (by rw [List.getElem?_toArray]; exact hv)
abbrev OutOwn (w : World) (base : Nat) (v : Value) (n : Nat) (xs : List TOut) : Prop := outK.Own (fun _ => False) w base 62 v n xs
/-- All but two blocks lie as they lay. -/
def Two0 (w : World) (r g n : Nat) (w' : World) : Prop := ∀ k, k < n → k ≠ r → k ≠ g → w'.heap[k]? = w.heap[k]?
noncomputable def decB2 : Code := ((Tryd.f37.body.bind (findBk 2)).getD .skip)
set_option maxHeartbeats 8000000 in
theorem dec_outs {u0 u1 u2 u3 u4 u7 u8 u9 u10 u11 u12 u13 u14 u15 u16 u17 u18 u19 u20 u21 u22 u23 u24 u25 u26 u27 u28 u29 u30 u31 u32 u33 u34 u35 u36 u37 u38 u39 u40 u41 u42 u43 u44 u45 u46 u47 u48 u49 u50 u51 u52 u53 u54 u55 u56 u57 u58 u59 u60 u61 u62 u63 u64 u65 u66 u67 u68 u69 u70 u71 u72 u73 u74 u75 u76 u77 u78 u79 u80 u81 u82 u83 u84 u85 u86 u87 u88 u89 u90 u91 u94 u95 u96 u97 u98 u99 u100 u101 u102 u103 u104 u105 u106 u107 u108 u109 u110 u111 u112 u113 u114 u115 u116 u117 u118 u119 u120 u121 u122 u123 u124 u125 u126 u127 u128 u129 u130 u131 u132 u133 u134 u135 u136 u137 u138 u139 u140 u141 u142 u143 u144 u145 u146 u147 u148 u149 u150 u151 u152 u153 u154 u155 u156 u157 u158 u159 u160 u161 u162 u163 u164 u165 u166 u167 u168 u169 u170 u171 u172 u173 u174 u175 u176 u177 u178 u179 u180 u181 u182 u183 u184 u185 u186 u187 u188 u189 u190 u191 u192 u193 u194 u195 u196 u197 u198 u199 u200 u201 u202 u203 u204 u205 u206 u207 u208 u209 u210 u211 : Value} (w wr0 : World) (r D g6 base n0 : Nat) (ver : Int) (v1 : Value) (p0 : PSt) (hn0 : n0 ≤ 1024) (hwr : w.heap.size ≤ r) (hw6 : w.heap.size ≤ g6) (hr6 : r ≠ g6) (hrb : r < base) (h6b : g6 < base) (hDw : D < w.heap.size) (hbase : base ≤ wr0.heap.size)
    (hS0 : RSt wr0 r D p0) (hg0 : wr0.heap[g6]? = some (.cells (tCells ver v1 (.slice none 0 0) 0) 54)) (hb0 : Below w.heap.size w wr0) (Q0 : Exit → Act → World → Prop)
    (hexit : ∀ x9 x93 x94 x95 x96 x97 x98 x99 x100 x101 x102 x103 x104 x105 x106 x107 x108 x109 x110 x111 x112 x113 A' N' c' w', RSt w' r D (outsP n0 p0).2 → OutOwn w' base (.slice A' N' c') N' (outsP n0 p0).1 → w'.heap[g6]? = some (.cells (tCells ver v1 (.slice A' N' c') 0) 54) → Below w.heap.size w w' → base ≤ w'.heap.size → Two0 wr0 r g6 base w' → Q0 .normal ⟨#[u0, u1, u2, u3, u4, .pointer (some ⟨r, 0, none⟩), .pointer (some ⟨g6, 0, none⟩), u7, u8, x9, u10, u11, u12, u13, u14, u15, u16, u17, u18, u19, u20, u21, u22, u23, u24, u25, u26, u27, u28, u29, u30, u31, u32, u33, u34, u35, u36, u37, u38, u39, u40, u41, u42, u43, u44, u45, u46, u47, u48, u49, u50, u51, u52, u53, u54, u55, u56, u57, u58, u59, u60, u61, u62, u63, u64, u65, u66, u67, u68, u69, u70, u71, u72, u73, u74, u75, u76, u77, u78, u79, u80, u81, u82, u83, u84, u85, u86, u87, u88, u89, u90, u91, .int .i64 n0, x93, x94, x95, x96, x97, x98, x99, x100, x101, x102, x103, x104, x105, x106, x107, x108, x109, x110, x111, x112, x113, u114, u115, u116, u117, u118, u119, u120, u121, u122, u123, u124, u125, u126, u127, u128, u129, u130, u131, u132, u133, u134, u135, u136, u137, u138, u139, u140, u141, u142, u143, u144, u145, u146, u147, u148, u149, u150, u151, u152, u153, u154, u155, u156, u157, u158, u159, u160, u161, u162, u163, u164, u165, u166, u167, u168, u169, u170, u171, u172, u173, u174, u175, u176, u177, u178, u179, u180, u181, u182, u183, u184, u185, u186, u187, u188, u189, u190, u191, u192, u193, u194, u195, u196, u197, u198, u199, u200, u201, u202, u203, u204, u205, u206, u207, u208, u209, u210, u211], []⟩ w') :
    Code.wp Tryd.prog decB2 Q0 ⟨#[u0, u1, u2, u3, u4, .pointer (some ⟨r, 0, none⟩), .pointer (some ⟨g6, 0, none⟩), u7, u8, u9, u10, u11, u12, u13, u14, u15, u16, u17, u18, u19, u20, u21, u22, u23, u24, u25, u26, u27, u28, u29, u30, u31, u32, u33, u34, u35, u36, u37, u38, u39, u40, u41, u42, u43, u44, u45, u46, u47, u48, u49, u50, u51, u52, u53, u54, u55, u56, u57, u58, u59, u60, u61, u62, u63, u64, u65, u66, u67, u68, u69, u70, u71, u72, u73, u74, u75, u76, u77, u78, u79, u80, u81, u82, u83, u84, u85, u86, u87, u88, u89, u90, u91, .int .i64 n0, .int .i64 0, u94, u95, u96, u97, u98, u99, u100, u101, u102, u103, u104, u105, u106, u107, u108, u109, u110, u111, u112, u113, u114, u115, u116, u117, u118, u119, u120, u121, u122, u123, u124, u125, u126, u127, u128, u129, u130, u131, u132, u133, u134, u135, u136, u137, u138, u139, u140, u141, u142, u143, u144, u145, u146, u147, u148, u149, u150, u151, u152, u153, u154, u155, u156, u157, u158, u159, u160, u161, u162, u163, u164, u165, u166, u167, u168, u169, u170, u171, u172, u173, u174, u175, u176, u177, u178, u179, u180, u181, u182, u183, u184, u185, u186, u187, u188, u189, u190, u191, u192, u193, u194, u195, u196, u197, u198, u199, u200, u201, u202, u203, u204, u205, u206, u207, u208, u209, u210, u211], []⟩ wr0 := by
  have HE := Lib.hid hexit
  clear hexit
  have hU8 := Tryd.underlying62
  have hE0 : OutOwn wr0 base (.slice none 0 0) 0 [] := RK.Own.nil _ _ _ _ _
  have hT0 : Two0 wr0 r g6 base wr0 := fun _ _ _ _ => rfl
  conv => arg 2; whnf
  go_wp2
  go_loopw [93] (fun v93 wr => ∃ (k : Nat) (p : PSt) (acc : List TOut) (A : Option Addr) (N c : Nat), k ≤ n0 ∧ v93 = .int .i64 k ∧ N = k ∧ Hid (outsP n0 p0 = (acc ++ (outsP (n0 - k) p).1, (outsP (n0 - k) p).2)) ∧ RSt wr r D p ∧ OutOwn wr base (.slice A N c) N acc ∧ wr.heap[g6]? = some (.cells (tCells ver v1 (.slice A N c) 0) 54) ∧ Below w.heap.size w wr ∧ base ≤ wr.heap.size ∧ Two0 wr0 r g6 base wr) (fun v _ => n0 - (intOf v).toNat)
  case atStart => exact ⟨0, p0, [], none, 0, 0, by omega, rfl, rfl, Lib.hid (by simp), hS0, hE0, hg0, hb0, hbase, hT0⟩
  case round =>
    clear hS0 hE0 hg0 hb0 hbase hT0
    obtain ⟨k, p, acc, A, N, c, hk, rfl, hNk, HR, hS, hO, hg6, hB, hbs, hT⟩ := hrel
    have HT := Lib.hid hT
    clear hT
    by_cases hlt : k < n0
    · have hlt' : (k : Int) < (n0 : Int) := by omega
      obtain ⟨Ar, nr, cr, hgr, _⟩ := id hS
      have e1 : wr.cell? ⟨r, 1, none⟩ = some (.int .i64 p.e) := blk_cell hgr rfl
      clear hgr
      by_cases he : p.e = 0
      · have he1 : (p.e != 0) = false := by rw [he]; rfl
        have hstep : outsP n0 p0 = (acc ++ [(outP1 p).1] ++ (outsP (n0 - (k + 1)) (outP1 p).2).1, (outsP (n0 - (k + 1)) (outP1 p).2).2) := by
          rw [HR.out, show n0 - k = (n0 - (k + 1)) + 1 by omega, outsP, if_neg (by rw [he]; decide), List.append_assoc]
          rfl
        have HST := Lib.hid hstep
        have hby := hS.bytes
        have hok := outP1_ok hby
        have hNK := Lib.hid hNk
        have HE0 := Lib.hid he
        have hgw := heap_lt hg6
        clear hstep he hNk hby
        go_wp2_with fail
        refine (rlit_calls _ r D _ 8 (by decide) hS _ rfl).mono ?_
        rintro e w3 ⟨rfl, hS3, hG3⟩
        have hF3 := grown_trans (World.grownBy.refl wr (some r)) hG3
        go_upto_region 21 with fail
        have hwe : wrap64 (ofLE (p.takeB 8)) = IntKind.i64.wrap (ofLE (p.takeB 8)) := by rw [IntKind.wrap_i64]; unfold wrap64; omega
        rw [hwe]
        obtain ⟨gi, hgi⟩ : ∃ gi, gi = w3.heap.size := ⟨_, rfl⟩
        have hgw3 : wr.heap.size ≤ gi := by rw [hgi]; exact hF3.size
        have q1 := heap_alloc_new w3 (.cells #[.int .i64 (IntKind.i64.wrap (ofLE (p.takeB 8))), .string ⟨#[]⟩] 62)
        have hba : Below w3.heap.size w3 (w3.alloc (.cells #[.int .i64 (IntKind.i64.wrap (ofLE (p.takeB 8))), .string ⟨#[]⟩] 62)) := (Below.refl _ _).alloc (Nat.le_refl _) _
        have q2 := hS3.below hba
        have q3 := grown_trans hF3 (grown_of_below hba (some r))
        have hhr : gi ≠ r := by omega
        have hhD : gi ≠ D := by have := hB.size; omega
        rw [← hgi] at q1 ⊢
        refine wp_gen (q := fun W => W.heap[gi]? = some (.cells #[.int .i64 (IntKind.i64.wrap (ofLE (p.takeB 8))), .string ⟨#[]⟩] 62) ∧ RSt W r D (p.take 8) ∧ wr.grownBy W (some r)) ⟨q1, q2, q3⟩ (fun w4 hw => ?_)
        have HGI := Lib.hid hgw3
        clear q1 q2 q3 hba hgi hF3 hG3 hS3 hS hgw3
        obtain ⟨hh4, hS4, hF4⟩ := hw
        go_wp2_with fail
        refine (rtext_calls _ r D _ hS4).mono ?_
        rintro e w5 ⟨rfl, hS5, hG5⟩
        have hh5 := heap_grown hG5 hh4 (fun e => hhr (Option.some.inj e))
        have hF5 := grown_trans hF4 hG5
        have c5 := blk_cell hh5 (i := 1) (v := .string ⟨#[]⟩) rfl
        have f5 := blk_frozen hh5 1
        have hx1 : (w5.setCell ⟨gi, 1, none⟩ (.string (strOfNums ((p.take 8).textB)))).heap[gi]? = some (.cells (outCells (outP1 p).1).toArray 62) := blk_set hh5 1 _
        have ht6 := turned_setCell w5 gi 1 (.string (strOfNums ((p.take 8).textB)))
        have hS8 : RSt (w5.setCell ⟨gi, 1, none⟩ (.string (strOfNums ((p.take 8).textB)))) r D (outP1 p).2 := hS5.keep (ht6.block r (fun e => hhr e.symm)) (ht6.block D (fun e => hhD e.symm))
        have hF8 := grown_far hF5 ht6 HGI.out
        have hg8 := heap_grown hF8 hg6 (fun e => hr6 (Option.some.inj e).symm)
        have hO8 : OutOwn _ base (.slice A N c) N acc := RK.Own.grown_ hO hF8 (fun k e => by cases e; exact hrb)
        have hbs8 : base ≤ (w5.setCell ⟨gi, 1, none⟩ (.string (strOfNums ((p.take 8).textB)))).heap.size := by have := hF8.size; omega
        have hNl : N + 1 ≤ 1025 := by have := hNK.out; omega
        clear hG5 hF4 hS4 hh4 hS5 hF5 ht6 hh5 hO hg6
        go_upto_region 22 with fail
        refine wp_gen (q := fun W => W.heap[g6]? = some (.cells (tCells ver v1 (.slice A N c) 0) 54) ∧ W.heap[gi]? = some (.cells (outCells (outP1 p).1).toArray 62) ∧ RSt W r D (outP1 p).2 ∧ OutOwn W base (.slice A N c) N acc ∧ base ≤ W.heap.size ∧ wr.grownBy W (some r)) ⟨hg8, hx1, hS8, hO8, hbs8, hF8⟩ (fun W hw => ?_)
        clear hg8 hx1 hS8 hO8 hbs8 hF8 c5 f5
        obtain ⟨hg8, hx1, hS8, hO8, hbs8, hF8⟩ := hw
        have d8 := blk_cell hg8 (i := 2) (v := .slice A N c) rfl
        have hq1 : OutOwn (W.alloc (.cells (outCells (outP1 p).1).toArray 62)) base (.slice A N c) N acc := RK.Own.alloc hO8 _
        have hq2 : outK.C (fun _ => True) (W.alloc (.cells (outCells (outP1 p).1).toArray 62)) (some ⟨W.heap.size, 0, none⟩) 1 [(outP1 p).1] := outK_one (heap_alloc_new _ _) hok
        have hq3 : base ≤ (W.alloc (.cells (outCells (outP1 p).1).toArray 62)).heap.size := by simp; omega
        have hq4 : (N + 1) * 24 ≤ 140737488355328 := by omega
        have hq5 : N + 1 ≤ maxLen := by unfold maxLen; omega
        have hzi := zinfo_out
        have hg8a := blk_alloc hg8 (.cells (outCells (outP1 p).1).toArray 62)
        go_upto_region 23 with (first
          | (refine wpList_load_row rfl 62 (.tmp 9) rfl gi rfl _ _ _ _ hx1 hU8 rfl (info_outA _) ?_)
          | (refine wpList_build1 rfl 52 62 _ rfl Tryd.underlying52 _ 2 24 zinfo_out (by decide) (by decide) (outCells (outP1 p).1) rfl rfl rfl ?_)
          | (refine RK.wpList_appK outK _ rfl (.tmp 108) (.tmp 110) 52 rfl (fun _ => False) base 62 _ 24 Tryd.underlying52 hzi rfl (by decide) (.slice A N c) N acc rfl hq1 (fun k h => h.elim) _ 1 1 [(outP1 p).1] rfl (fun _ => True) hq2 (fun _ _ h => h) (N + 1) _ rfl rfl hq5 hq4 hq3 ?_
             intro A9 c9 w9 hO9 hG9 hat9
             have hg9 := heap_grown hG9 hg8a (fun e => by have := (RK.Own.lt hO8 _ e.symm).1; omega)
             have d9 := blk_cell hg9 (i := 2) (v := .slice A N c) rfl
             have f9 := blk_frozen hg9 2
             have hs9 := Lib.hid hG9.size
             have HG9 := Lib.hid hG9
             have HX9 := Lib.hid hat9
             have hlo9 : Hid (∀ q, (Value.slice A N c).ownBlock = some q → base ≤ q) := Lib.hid fun q hq => (RK.Own.lt hO8 q hq).1
             clear hq1 hq2 hq3 hq4 hq5 hzi hg8a d8 hg8 hx1 hO8 hG9 hat9
             refine wp_stopper ?_))
        refine Lib.hid ?_
        go_upto_region 23 with fail
        have hT9 := turned_setCell w9 g6 2 (.slice A9 (N + 1) c9)
        have hD6 : D ≠ g6 := by omega
        have hDb : D < base := by omega
        have hWa : Below W.heap.size W (W.alloc (.cells (outCells (outP1 p).1).toArray 62)) := (Below.refl _ _).alloc (Nat.le_refl _) _
        have hSa := hS8.below hWa
        have hrs : r < W.heap.size := by omega
        have hnr : some r ≠ (Value.slice A N c).ownBlock := fun e => by have := hlo9.out r e.symm; omega
        have hnD : some D ≠ (Value.slice A N c).ownBlock := fun e => by have := hlo9.out D e.symm; omega
        have hS9 : RSt w9 r D (outP1 p).2 := hSa.keep (HG9.out.block r (by simp; omega) hnr) (HG9.out.block D (by simp; omega) hnD)
        have hS10 := hS9.keep (hT9.block r hr6) (hT9.block D hD6)
        have hO10 := RK.Own.grown_ hO9 hT9.grown (fun k e => by cases e; exact h6b)
        have hg10 := blk_set hg9 2 (.slice A9 (N + 1) c9)
        have hB8 := hB.grown hF8 hB.size (fun k e => by cases e; exact hwr)
        have hB9 := (below_then hB8 hB8.size hWa).grown HG9.out (below_then hB8 hB8.size hWa).size (fun k e => by have := hlo9.out k e; omega)
        have hB10 := hT9.below hB9 hw6
        have hs10 : base ≤ (w9.setCell ⟨g6, 2, none⟩ (.slice A9 (N + 1) c9)).heap.size := by have h1 := hs9.out; rw [hT9.size]; simp at h1; omega
        have hT10 : Two0 wr0 r g6 base (w9.setCell ⟨g6, 2, none⟩ (.slice A9 (N + 1) c9)) := fun q hq hqr hqg =>
          (hT9.block q hqg).trans ((HG9.out.block q (by simp; omega) (fun e => by have := hlo9.out q e.symm; omega)).trans ((hWa.block q (by omega)).trans ((hF8.block q (by omega) (fun e => hqr (Option.some.inj e))).trans (HT.out q hq hqr hqg))))
        clear hS8 hbs8 hF8 hS9 hO9 hg9 hT9 hSa hWa hB8 hB9 HG9 HX9 hs9 hlo9 d9 f9 hnr hnD
        go_wp2
        go_roundw
        case rel => exact ⟨k + 1, (outP1 p).2, acc ++ [(outP1 p).1], A9, N + 1, c9, by omega, by go_num, by rw [hNK.out], HST, hS10, hO10, hg10, hB10, hs10, hT10⟩
        case measure => simp [intOf]; omega
      · have he1 : (p.e != 0) = true := by rw [bne_iff_ne]; exact he
        have hstop : outsP n0 p0 = (acc, p) := by
          rw [HR.out, show n0 - k = (n0 - (k + 1)) + 1 by omega, outsP, if_pos he, List.append_nil]
        go_upto_region 20 with fail
        exact HE.out _ _ _ _ _ _ _ _ _ _ _ _ _ _ _ _ _ _ _ _ _ _ A N c wr (by rw [hstop]; exact hS) (by rw [hstop]; exact hO) hg6 hB hbs HT.out
    · have hlt' : ¬ ((k : Int) < (n0 : Int)) := by omega
      have hend : outsP n0 p0 = (acc, p) := by
        rw [HR.out, show n0 - k = 0 by omega, outsP, List.append_nil]
      go_wp2
      exact HE.out _ _ _ _ _ _ _ _ _ _ _ _ _ _ _ _ _ _ _ _ _ _ A N c wr (by rw [hend]; exact hS) (by rw [hend]; exact hO) hg6 hB hbs HT.out
end Go.Proofs.YtclkgflficlmiaaDoor
