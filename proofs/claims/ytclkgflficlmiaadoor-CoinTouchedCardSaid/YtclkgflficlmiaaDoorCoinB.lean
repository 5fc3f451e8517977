/- coin.Plan: the inputs of a transaction. | coin.Plan: the outputs of a transaction. | coin.Plan: the plain steps from transaction to transaction. | coin.Plan: what a block turns, or why it can't be. -/
import Derived.Test.YtclkgflficlmiaaDoorCoinA
/-! ## CoinPi -/
section
set_option maxRecDepth 100000
set_option linter.unusedVariables false
namespace Go.Proofs.YtclkgflficlmiaaDoor
open Go Go.RowKit
/-- Two blocks of the round's own: the transaction, and its number. -/
def TwoB (gT gI : Nat) (cT cI : Array Value) (w : World) : Prop := w.heap[gT]? = some (.cells cT 54) ∧ w.heap[gI]? = some (.cells cI 24)
theorem TwoB.below {gT gI : Nat} {cT cI : Array Value} {w w' : World} (h : TwoB gT gI cT cI w) (hb : Below w.heap.size w w') : TwoB gT gI cT cI w' := ⟨heap_below hb h.1, heap_below hb h.2⟩
theorem TwoB.turned {gT gI g : Nat} {cT cI : Array Value} {w w' : World} (h : TwoB gT gI cT cI w) (ht : Turned w g w') (h1 : gT ≠ g) (h2 : gI ≠ g) : TwoB gT gI cT cI w' := ⟨ht.keep h.1 h1, ht.keep h.2 h2⟩
theorem TwoB.grown {gT gI : Nat} {cT cI : Array Value} {w w' : World} {row : Option Nat} (h : TwoB gT gI cT cI w) (hg : w.grownBy w' row) (h1 : some gT ≠ row) (h2 : some gI ≠ row) : TwoB gT gI cT cI w' := ⟨heap_grown hg h.1 h1, heap_grown hg h.2 h2⟩
noncomputable def plB2 : Code := ((Tryd.f42.body.bind (findBk 2)).getD .skip)
set_option maxHeartbeats 16000000 in
theorem pl_ins {u0 u1 u3 u4 u5 u7 u8 u13 u14 u15 u16 u18 u19 u20 u21 u22 u23 u24 u25 u26 u27 u28 u29 u30 u31 u32 u33 u34 u35 u36 u37 u38 u39 u40 u41 u42 u43 u44 u45 u46 u47 u48 u49 u50 u51 u52 u53 u54 u55 u56 u57 u58 u59 u60 u61 u62 u63 u64 u65 u66 u67 u68 u69 u70 u71 u72 u73 u74 u75 u79 u80 u81 u82 u83 u84 u85 u86 u87 u88 u89 u90 u91 u92 u93 u94 u95 u96 u97 u98 u99 u100 u101 u102 u103 u104 u105 u106 u107 u108 u109 u110 u111 u112 u113 u114 u115 u116 u117 u118 u119 u120 u121 u122 u123 u124 u125 u126 u127 u128 u129 u130 u131 u132 u133 u134 u135 u136 u137 u138 u139 u140 u141 u142 u143 u144 u145 u146 u147 u148 u149 u150 u151 u152 u153 u154 u155 u156 u157 u158 u159 u160 u161 u162 u163 u164 u165 u166 u167 u168 u169 u170 u171 u172 u173 u174 u175 u176 u177 u178 u179 u180 u181 u182 u183 u184 u185 u186 u187 u188 u189 u190 u191 u192 : Value} (w wl wr0 : World) (gR gD gM gS base k : Nat) (VI vw : Value) (m : List (Pt × Cn)) (G : World → Prop) (hV : ViewOk vw 0 m G) (hG : G wl) (hbw : Below w.heap.size w wl) (hwR : w.heap.size ≤ gR) (hRl : gR < wl.heap.size) (hgR : wl.heap[gR]? = some (.cells dz 86))
    (hlD : wl.heap.size ≤ gD) (hDM : gD < gM) (hMS : gM < gS) (hSb : gS < base) (S : Nat → Prop) (A1 : Option Addr) (n1 c1 : Nat) (ins : List TIn) (hn1 : n1 ≤ c1) (hc1 : c1 ≤ maxLen) (hn : n1 ≤ 1024) (hI : inK.C S wl A1 n1 ins)
    (st : PlS) (L : Nat) (hL : L ≤ 2000000000) (hst : PlOk st L) (hM0 : PlM wl gD gM gS base VI st wr0) (gT gI : Nat) (cT cI : Array Value) (hbT : base ≤ gT) (hbI : base ≤ gI) (hF0 : TwoB gT gI cT cI wr0) (Q0 : Exit → Act → World → Prop)
    (hexit : ∀ x7 x16 x18 x19 x20 x21 x78 x79 x80 x81 x82 x83 x84 x85 x86 x87 x88 x89 x90 x91 x92 x93 x94 x95 x96 x97 x98 x99 x100 x101 x102 x103 x104 x105 x106 x107 x108 x109 x110 x111 x112 x113 x114 x115 x116 x117 x118 x119 x120 x121 x122 x123 x124 x125 x126 x127 x128 x129 x130 x131 x132 x133 x134 x135 x136 sp us s w', plInK st.made m k ins st.spent st.uses = .ok (sp, us, s) → PlM wl gD gM gS base VI { st with spent := sp, uses := us } w' → TwoB gT gI cT cI w' → sp.length ≤ L + n1 → us.length ≤ L + n1 → 0 ≤ s → s ≤ topM → Q0 .normal ⟨#[u0, u1, vw, u3, u4, u5, .pointer (some ⟨gR, 0, none⟩), x7, u8, .pointer (some ⟨gD, 0, none⟩), .map (some gM), .map (some gS), .int .i64 (k : Int), u13, u14, u15, x16, .int .i64 s, x18, x19, x20, x21, u22, u23, u24, u25, u26, u27, u28, u29, u30, u31, u32, u33, u34, u35, u36, u37, u38, u39, u40, u41, u42, u43, u44, u45, u46, u47, u48, u49, u50, u51, u52, u53, u54, u55, u56, u57, u58, u59, u60, u61, u62, u63, u64, u65, u66, u67, u68, u69, u70, u71, u72, u73, u74, u75, .slice A1 n1 c1, .int .i64 (n1 : Int), x78, x79, x80, x81, x82, x83, x84, x85, x86, x87, x88, x89, x90, x91, x92, x93, x94, x95, x96, x97, x98, x99, x100, x101, x102, x103, x104, x105, x106, x107, x108, x109, x110, x111, x112, x113, x114, x115, x116, x117, x118, x119, x120, x121, x122, x123, x124, x125, x126, x127, x128, x129, x130, x131, x132, x133, x134, x135, x136, u137, u138, u139, u140, u141, u142, u143, u144, u145, u146, u147, u148, u149, u150, u151, u152, u153, u154, u155, u156, u157, u158, u159, u160, u161, u162, u163, u164, u165, u166, u167, u168, u169, u170, u171, u172, u173, u174, u175, u176, u177, u178, u179, u180, u181, u182, u183, u184, u185, u186, u187, u188, u189, u190, u191, u192], []⟩ w')
    (herr : ∀ x16 x17 x18 x19 x20 x21 x78 x79 x80 x81 x82 x83 x84 x85 x86 x87 x88 x89 x90 x91 x92 x93 x94 x95 x96 x97 x98 x99 x100 x101 x102 x103 x104 x105 x106 x107 x108 x109 x110 x111 x112 x113 x114 x115 x116 x117 x118 x119 x120 x121 x122 x123 x124 x125 x126 x127 x128 x129 x130 x131 x132 x133 x134 x135 x136 e w', plInK st.made m k ins st.spent st.uses = .error e → w'.heap[gR]? = some (.cells dz 86) → Below w.heap.size w w' → Q0 .ret ⟨#[u0, u1, vw, u3, u4, u5, .pointer (some ⟨gR, 0, none⟩), .int .i64 e, u8, .pointer (some ⟨gD, 0, none⟩), .map (some gM), .map (some gS), .int .i64 (k : Int), u13, u14, u15, x16, x17, x18, x19, x20, x21, u22, u23, u24, u25, u26, u27, u28, u29, u30, u31, u32, u33, u34, u35, u36, u37, u38, u39, u40, u41, u42, u43, u44, u45, u46, u47, u48, u49, u50, u51, u52, u53, u54, u55, u56, u57, u58, u59, u60, u61, u62, u63, u64, u65, u66, u67, u68, u69, u70, u71, u72, u73, u74, u75, .slice A1 n1 c1, .int .i64 (n1 : Int), x78, x79, x80, x81, x82, x83, x84, x85, x86, x87, x88, x89, x90, x91, x92, x93, x94, x95, x96, x97, x98, x99, x100, x101, x102, x103, x104, x105, x106, x107, x108, x109, x110, x111, x112, x113, x114, x115, x116, x117, x118, x119, x120, x121, x122, x123, x124, x125, x126, x127, x128, x129, x130, x131, x132, x133, x134, x135, x136, u137, u138, u139, u140, u141, u142, u143, u144, u145, u146, u147, u148, u149, u150, u151, u152, u153, u154, u155, u156, u157, u158, u159, u160, u161, u162, u163, u164, u165, u166, u167, u168, u169, u170, u171, u172, u173, u174, u175, u176, u177, u178, u179, u180, u181, u182, u183, u184, u185, u186, u187, u188, u189, u190, u191, u192], []⟩ w') :
    Code.wp Tryd.prog plB2 Q0 ⟨#[u0, u1, vw, u3, u4, u5, .pointer (some ⟨gR, 0, none⟩), u7, u8, .pointer (some ⟨gD, 0, none⟩), .map (some gM), .map (some gS), .int .i64 (k : Int), u13, u14, u15, u16, .int .i64 0, u18, u19, u20, u21, u22, u23, u24, u25, u26, u27, u28, u29, u30, u31, u32, u33, u34, u35, u36, u37, u38, u39, u40, u41, u42, u43, u44, u45, u46, u47, u48, u49, u50, u51, u52, u53, u54, u55, u56, u57, u58, u59, u60, u61, u62, u63, u64, u65, u66, u67, u68, u69, u70, u71, u72, u73, u74, u75, .slice A1 n1 c1, .int .i64 (n1 : Int), .int .i64 0, u79, u80, u81, u82, u83, u84, u85, u86, u87, u88, u89, u90, u91, u92, u93, u94, u95, u96, u97, u98, u99, u100, u101, u102, u103, u104, u105, u106, u107, u108, u109, u110, u111, u112, u113, u114, u115, u116, u117, u118, u119, u120, u121, u122, u123, u124, u125, u126, u127, u128, u129, u130, u131, u132, u133, u134, u135, u136, u137, u138, u139, u140, u141, u142, u143, u144, u145, u146, u147, u148, u149, u150, u151, u152, u153, u154, u155, u156, u157, u158, u159, u160, u161, u162, u163, u164, u165, u166, u167, u168, u169, u170, u171, u172, u173, u174, u175, u176, u177, u178, u179, u180, u181, u182, u183, u184, u185, u186, u187, u188, u189, u190, u191, u192], []⟩ wr0 := by
  have HE := Lib.hid hexit
  have HR := Lib.hid herr
  have HV := Lib.hid hV
  have HST := Lib.hid hst
  have HG := Lib.hid hG
  have hlb : wl.heap.size ≤ base := by omega
  have hUI := Tryd.underlying67
  have hUP := Tryd.underlying64
  have hUC := Tryd.underlying106
  have hUM := Tryd.underlying99
  have hUS := Tryd.underlying142
  have hc1' := hc1
  unfold maxLen at hc1'
  have hn1I : (n1 : Int) ≤ 9223372036854775807 := by omega
  have HLN := Lib.hid hI.len
  clear hexit herr hV hst hG
  conv => arg 2; whnf
  by_cases hk0 : k = 0
  · have hkb : ((k : Int) == 0) = true := beq_iff_eq.2 (by omega)
    have HP : Hid (plInK st.made m k ins st.spent st.uses = .ok (st.spent, st.uses, 0)) := Lib.hid (by unfold plInK; rw [if_pos hk0])
    have HK := Lib.hid hk0
    clear hk0
    go_wp2
    go_loopw [17, 78] (fun v17 v78 wr => v17 = .int .i64 0 ∧ v78 = .int .i64 0 ∧ PlM wl gD gM gS base VI st wr ∧ TwoB gT gI cT cI wr) (fun _ v _ => 0)
    case atStart => exact ⟨rfl, rfl, hM0, hF0⟩
    case round =>
      clear hM0 hF0
      obtain ⟨rfl, rfl, hM, hF⟩ := hrel
      have hle1 := HST.out.slen
      have hle2 := HST.out.uses
      by_cases hlt : 0 < n1
      · have hlt' : (0 : Int) < (n1 : Int) := by omega
        have hb : Below wl.heap.size wl wr := by obtain ⟨_, _, _, _, _, _, _, _, _, h, _⟩ := hM; exact h
        obtain ⟨b, o, cs, x, hA, hx, hKx, hcx⟩ := (RK.C.below hI hb).get 0 hlt
        subst hA
        obtain ⟨Aw, nw, cw, rfl, hxo, _, _, _⟩ := hKx
        have hidl := hxo.idl
        have i1 := info_in x hidl (.slice Aw nw cw)
        have hrg : wr.rangeAt b (o + 0 * 36) (inCells x (.slice Aw nw cw)) := hcx
        rw [Nat.zero_mul, Nat.add_zero] at hrg
        clear hcx hx
        go_upto_region 22 with (first
          | ((with_reducible refine wpList_at 82 ?_); refine wpList_load_mid rfl 67 (.tmp 81) rfl b o rfl (inCells x (.slice Aw nw cw)) _ hrg hUI rfl i1 ?_)
          | ((with_reducible refine wpList_atS 19 ?_); refine wpList_store_any rfl 67 (.tmp 19) (.tmp 82) rfl wr.heap.size (inCells x (.slice Aw nw cw)).toArray rfl rfl 67 (inCells in0 (.slice none 0 0)).toArray (heap_alloc_new _ _) (info_inA x hidl _) (in_sizes x hidl _) (in_one x _ rfl) ?_; intro w2 g2 ht2))
        have hb2 : Below wr.heap.size wr w2 := ht2.below ((Below.refl _ _).alloc (Nat.le_refl _) _) (Nat.le_refl _)
        have hM2 := hM.below hlb hb2
        have hF2 := hF.below hb2
        clear hM hb hrg g2 ht2 hb2 hF
        go_wp2
        exact HE.out _ _ _ _ _ _ _ _ _ _ _ _ _ _ _ _ _ _ _ _ _ _ _ _ _ _ _ _ _ _ _ _ _ _ _ _ _ _ _ _ _ _ _ _ _ _ _ _ _ _ _ _ _ _ _ _ _ _ _ _ _ _ _ _ _ _ _ _ _ HP.out hM2 hF2 (by omega) (by omega) (by decide) (by decide)
      · have hlt' : ¬ (0 : Int) < (n1 : Int) := by omega
        go_wp2
        exact HE.out _ _ _ _ _ _ _ _ _ _ _ _ _ _ _ _ _ _ _ _ _ _ _ _ _ _ _ _ _ _ _ _ _ _ _ _ _ _ _ _ _ _ _ _ _ _ _ _ _ _ _ _ _ _ _ _ _ _ _ _ _ _ _ _ _ _ _ _ _ HP.out hM hF (by omega) (by omega) (by decide) (by decide)
  · have hkb : ((k : Int) == 0) = false := beq_eq_false_iff_ne.2 (by omega)
    have HP : Hid (plInK st.made m k ins st.spent st.uses = plIns st.made m k 0 ins st.spent st.uses 0) := Lib.hid (by unfold plInK; rw [if_neg hk0])
    have HK := Lib.hid hk0
    clear hk0
    go_wp2
    go_loopw [17, 78] (fun v17 v78 wr => ∃ (i : Nat) (sp : List (Pt × Bool)) (us : List Us) (s : Int), i ≤ n1 ∧ v78 = .int .i64 i ∧ v17 = .int .i64 s ∧ 0 ≤ s ∧ s ≤ 2100000000000000 ∧ Hid (plInK st.made m k ins st.spent st.uses = plIns st.made m k i (ins.drop i) sp us s) ∧ Hid (sp.length ≤ L + i ∧ us.length ≤ L + i) ∧ PlM wl gD gM gS base VI { st with spent := sp, uses := us } wr ∧ TwoB gT gI cT cI wr) (fun _ v _ => n1 - (intOf v).toNat)
    case atStart => exact ⟨0, st.spent, st.uses, 0, by omega, rfl, rfl, by decide, by decide, Lib.hid (by rw [HP.out, List.drop_zero]), Lib.hid ⟨HST.out.slen, HST.out.uses⟩, hM0, hF0⟩
    case round =>
      clear hM0 HP hF0
      obtain ⟨i, sp, us, s, hi, rfl, rfl, hs0, hs1, HP, HLL, hM, hF⟩ := hrel
      by_cases hlt : i < n1
      · have hlt' : (i : Int) < (n1 : Int) := by omega
        have hii : (0 : Int) ≤ (i : Int) := by omega
        have hb : Below wl.heap.size wl wr := by obtain ⟨_, _, _, _, _, _, _, _, _, h, _⟩ := hM; exact h
        obtain ⟨b, o, cs, x, hA, hx, hKx, hcx⟩ := (RK.C.below hI hb).get i hlt
        subst hA
        obtain ⟨Aw, nw, cw, rfl, hxo, _, _, _⟩ := hKx
        have hidl := hxo.idl
        have hpt : PtOk x.pt := ⟨⟨hxo.idl, hxo.idb⟩, hxo.o0, hxo.o1⟩
        have i1 := info_in x hidl (.slice Aw nw cw)
        have i2 := info_pt hidl x.out
        have hrg : wr.rangeAt b (o + i * 36) (inCells x (.slice Aw nw cw)) := hcx
        have HPS := Lib.hid (plIns_step hx st.made m k sp us s)
        clear hcx hx
        go_upto_region 22 with (first
          | ((with_reducible refine wpList_at 82 ?_); refine wpList_load_mid rfl 67 (.tmp 81) rfl b (o + i * 36) rfl (inCells x (.slice Aw nw cw)) _ hrg hUI rfl i1 ?_)
          | ((with_reducible refine wpList_atS 19 ?_); refine wpList_store_any rfl 67 (.tmp 19) (.tmp 82) rfl wr.heap.size (inCells x (.slice Aw nw cw)).toArray rfl rfl 67 (inCells in0 (.slice none 0 0)).toArray (heap_alloc_new _ _) (info_inA x hidl _) (in_sizes x hidl _) (in_one x _ rfl) ?_; intro w2 g2 ht2))
        have hb2 : Below wr.heap.size wr w2 := ht2.below ((Below.refl _ _).alloc (Nat.le_refl _) _) (Nat.le_refl _)
        have hM2 := hM.below hlb hb2
        have r2 := range_in_pt (range_block (xs := inCells x (.slice Aw nw cw)) g2)
        have hlt2 := heap_lt g2
        have hbr : base ≤ wr.heap.size := by obtain ⟨_, _, _, _, _, _, _, _, _, _, h⟩ := hM; exact h
        have hF2 := hF.below hb2
        clear hM hb hrg g2 ht2 hb2 hF
        have hlk := MapV.look (P := Tryd.prog) true keyPt hUM (zero_cn w2) (by obtain ⟨_, _, _, _, _, _, _, h, _⟩ := hM2; exact h) hpt
        have hrun : (Instr.lookup 99 (.map (some gM)) (.agg (ptL x.id x.out).toArray) true).run Tryd.prog w2 = .ok (.tuple #[.agg (cnCells (coinR st.made x.pt)).toArray, .bool (st.made.lookup x.pt).isSome]) w2 := by
          refine Eq.trans hlk ?_
          unfold coinR
          cases st.made.lookup x.pt <;> rfl
        have hcm := coinR_ok HST.out.made x.pt
        obtain ⟨cm, hcme⟩ : ∃ c, coinR st.made x.pt = c := ⟨_, rfl⟩
        obtain ⟨bm, hbm⟩ : ∃ c, (st.made.lookup x.pt).isSome = c := ⟨_, rfl⟩
        rw [hcme, hbm] at hrun
        rw [hcme] at hcm
        have HCM := Lib.hid hcme
        have HBM := Lib.hid hbm
        clear hlk hcme hbm
        go_upto_region 24 with (first
          | ((with_reducible refine wpList_at 88 ?_); refine wpList_load_mid rfl 64 (.tmp 87) rfl wr.heap.size 0 rfl (ptL x.id x.out) _ r2 hUP rfl i2 ?_)
          | ((with_reducible refine wpList_at 89 ?_); refine wpList_lookV rfl (.tmp 86) (.tmp 88) 99 true rfl (.map (some gM)) (.agg (ptL x.id x.out).toArray) _ rfl rfl hrun ?_)
          | ((with_reducible refine wpList_atS 20 ?_); refine wpList_store_any rfl 106 (.tmp 20) (.tmp 90) rfl w2.heap.size (cnCells cm).toArray rfl rfl 106 (cnCells cn0).toArray (heap_alloc_new _ _) (info_cnA hcm) (size_cn cn0_ok hcm) (cnCells_all _) ?_; intro w3 g3 ht3))
        have hb3 : Below w2.heap.size w2 w3 := ht3.below ((Below.refl _ _).alloc (Nat.le_refl _) _) (Nat.le_refl _)
        have hsk := seek_rng HST.out.made HV.out.set HST.out.rng HV.out.rng x.pt
        obtain ⟨cc, hcc⟩ : ∃ c, seekR st.made m x.pt = c := ⟨_, rfl⟩
        obtain ⟨sk, hskk⟩ : ∃ c, (seek st.made m x.pt).isSome = c := ⟨_, rfl⟩
        rw [hcc] at hsk
        have HCC := Lib.hid hcc
        have HSK := Lib.hid hskk
        obtain ⟨hcok, hcc0, hcc1⟩ := hsk
        have hcc1 : cc.coins ≤ 2100000000000000 := hcc1
        clear hrun ht3 hcc hskk
        go_upto_if 93 with fail
        go_cut [16, 21] from 93 to 105 (fun v16 v21 wd => v21 = .bool sk ∧ wd.heap[w2.heap.size]? = some (.cells (cnCells cc).toArray 106) ∧ Below w2.heap.size w2 wd)
        case first =>
          cases bm with
          | true =>
            have h1 := seek_made (m := m) HBM.out
            rw [HSK.out, HCC.out, HCM.out] at h1
            obtain ⟨rfl, rfl⟩ := h1
            go_wp2
            go_meet
            case rel => exact ⟨rfl, g3, hb3⟩
          | false =>
            have h1 := seek_set (m := m) HBM.out
            rw [HSK.out, HCC.out] at h1
            obtain ⟨rfl, rfl⟩ := h1
            have hG3 := HV.out.keep HG.out (below_then (by obtain ⟨_, _, _, _, _, _, _, _, _, h, _⟩ := hM2; exact h) (Nat.le_trans hlb (by omega)) hb3)
            obtain ⟨f9, args9, hm9, hc9⟩ := HV.out.cn rfl w3 hG3 x.pt hpt
            have HC9 := Lib.hid hc9
            have HM9 := Lib.hid hm9
            have r3 := range_below hb3 r2
            clear hG3 hc9 hm9
            go_upto_region 26 with (first
              | ((with_reducible refine wpList_at 97 ?_); refine wpList_load_mid rfl 64 (.tmp 96) rfl wr.heap.size 0 rfl (ptL x.id x.out) _ r3 hUP rfl i2 ?_)
              | ((with_reducible refine wpList_at 98 ?_); refine wpList_invoke rfl (.tmp 95) (.tmp 97) "Coin" _ rfl vw _ rfl rfl f9 args9 HM9.out _ HC9.out ?_; intro w4 hb4)
              | ((with_reducible refine wpList_atS 20 ?_); refine wpList_store_any rfl 106 (.tmp 20) (.tmp 99) rfl w2.heap.size (cnCells (coinR m x.pt)).toArray rfl rfl 106 (cnCells cm).toArray (heap_below hb4 g3) (info_cnA hcok) (size_cn hcm hcok) (cnCells_all _) ?_; intro w5 g5 ht5))
            have hB5 : Below w2.heap.size w2 w5 := ht5.below (below_then hb3 hb3.size hb4) (Nat.le_refl _)
            clear ht5 hb4 g3 hb3
            go_wp2
            go_meet
            case rel => exact ⟨rfl, g5, hB5⟩
        case rest =>
          obtain ⟨rfl, g4, hb4⟩ := hcut
          have hM4 := hM2.below hlb hb4
          have hF4 := hF2.below hb4
          have r4 := range_below hb4 r2
          have hlt4 := heap_lt g4
          clear hM2 r2 g3 hb3 hF2
          have hbl4 : Below wl.heap.size wl wc := by obtain ⟨_, _, _, _, _, _, _, _, _, h, _⟩ := hM4; exact h
          have gR4 := heap_below hbl4 hgR
          have hbw4 := below_then hbw hbw.size hbl4
          have hlk2 := MapV.look (P := Tryd.prog) false keyPt hUS (zero_bool wc) (by obtain ⟨_, _, _, _, _, _, _, _, h, _⟩ := hM4; exact h) hpt
          have hrun2 : (Instr.lookup 142 (.map (some gS)) (.agg (ptL x.id x.out).toArray) false).run Tryd.prog wc = .ok (.bool ((sp.lookup x.pt).getD false)) wc := by
            refine Eq.trans hlk2 ?_
            show _ = Result.ok (Value.bool ((sp.lookup x.pt).getD false)) wc
            cases sp.lookup x.pt <;> rfl
          obtain ⟨bs, hbs⟩ : ∃ c, (sp.lookup x.pt).getD false = c := ⟨_, rfl⟩
          rw [hbs] at hrun2
          have HBS := Lib.hid hbs
          clear hlk2 hbs hb4
          cases sk with
          | false =>
            have HF : Hid (plInK st.made m k ins st.spent st.uses = .error 22) := Lib.hid (by
              rw [HP.out, HPS.out]
              have h := HSK.out
              cases hs : seek st.made m x.pt with
              | none => rfl
              | some c => rw [hs] at h; cases h)
            clear hrun2
            go_wp2_with (first  | ((with_reducible refine wpList_atS 6 ?_); refine wpList_store_any rfl 86 (.tmp 6) (.tmp 114) rfl gR dz rfl rfl 86 dz gR4 (info_d _ _ _ _) rfl (one_d _ _ _ _ _ _ _ _ _ _) ?_; intro wE hE htE))
            exact HR.out _ _ _ _ _ _ _ _ _ _ _ _ _ _ _ _ _ _ _ _ _ _ _ _ _ _ _ _ _ _ _ _ _ _ _ _ _ _ _ _ _ _ _ _ _ _ _ _ _ _ _ _ _ _ _ _ _ _ _ _ _ _ _ _ _ _ _ HF.out hE (htE.below hbw4 hwR)
          | true =>
            have HSE : Hid (seek st.made m x.pt = some cc) := Lib.hid (by
              have h := HSK.out
              have h2 := HCC.out
              unfold seekR at h2
              cases hs : seek st.made m x.pt with
              | none => rw [hs] at h; cases h
              | some c => rw [hs] at h2; rw [← h2]; rfl)
            cases bs with
            | true =>
              have HF : Hid (plInK st.made m k ins st.spent st.uses = .error 22) := Lib.hid (by rw [HP.out, HPS.out, HSE.out]; simp only [HBS.out, if_true])
              go_wp2_with (first | ((with_reducible refine wpList_at 111 ?_); refine wpList_load_midG rfl 64 (.tmp 110) rfl wr.heap.size 0 rfl (ptL x.id x.out) _ r4 hUP rfl i2 ?_) | ((with_reducible refine wpList_at 112 ?_); refine wpList_lookVG rfl (.tmp 109) (.tmp 111) 142 false rfl (.map (some gS)) (.agg (ptL x.id x.out).toArray) _ rfl rfl hrun2 ?_) | ((with_reducible refine wpList_atS 6 ?_); refine wpList_store_any rfl 86 (.tmp 6) (.tmp 114) rfl gR dz rfl rfl 86 dz gR4 (info_d _ _ _ _) rfl (one_d _ _ _ _ _ _ _ _ _ _) ?_; intro wE hE htE))
              exact HR.out _ _ _ _ _ _ _ _ _ _ _ _ _ _ _ _ _ _ _ _ _ _ _ _ _ _ _ _ _ _ _ _ _ _ _ _ _ _ _ _ _ _ _ _ _ _ _ _ _ _ _ _ _ _ _ _ _ _ _ _ _ _ _ _ _ _ _ HF.out hE (htE.below hbw4 hwR)
            | false =>
              have HPT : Hid (plInK st.made m k ins st.spent st.uses = if topM < s + cc.coins then .error 24 else plIns st.made m k (i + 1) (ins.drop (i + 1)) (putV sp x.pt true) (us ++ [⟨k, i, x.pt, cc⟩]) (s + cc.coins)) := Lib.hid (by rw [HP.out, HPS.out, HSE.out]; simp only [HBS.out, Bool.false_eq_true, if_false])
              have hspl : sp.length < maxLen := by have := HLL.out.1; unfold maxLen; omega
              obtain ⟨w5, hput, hS5, ht5⟩ := MapV.put (P := Tryd.prog) keyPt hUS (by obtain ⟨_, _, _, _, _, _, _, _, h, _⟩ := hM4; exact h) hspl hpt true
              have hput' : (Instr.mapUpdate 142 (.map (some gS)) (.agg (ptL x.id x.out).toArray) (.bool true)).run Tryd.prog wc = .ok () w5 := hput
              have g5 := ht5.keep g4 (by omega)
              have gR5 := ht5.keep gR4 (by omega)
              have hbw5 := ht5.below hbw4 (by have := hbw.size; omega)
              have hF5 := hF4.turned ht5 (by omega) (by omega)
              have hM5 : PlM wl gD gM gS base VI { st with spent := putV sp x.pt true, uses := us } w5 := by
                obtain ⟨A2, c2, A3, c3, q1, q2, q3, q4, q5, q6, q7⟩ := hM4
                exact ⟨A2, c2, A3, c3, ht5.keep q1 (by omega), q2.grown_ ht5.grown (fun q e => by cases e; exact hSb), q3.grown_ ht5.grown (fun q e => by cases e; exact hSb), q4.keep (ht5.block gM (by omega)), hS5, ht5.below q6 (by omega), by rw [ht5.size]; exact q7⟩
              have r5 : w5.rangeAt wr.heap.size 0 (ptL x.id x.out) := fun j v hv => by
                rw [cell_move (ht5.block wr.heap.size (by omega))]
                exact r4 j v hv
              have c0 : w5.cell? ⟨w2.heap.size, 0, none⟩ = some (.int .i64 cc.coins) := blk_cell g5 rfl
              have hsz5 : wc.heap.size ≤ w5.heap.size := by rw [ht5.size]; exact Nat.le_refl _
              clear hM4 g4 hbw4 gR4 hbl4 hput hspl hS5 ht5 hF4
              by_cases htop : 2100000000000000 < s + cc.coins
              · have HF : Hid (plInK st.made m k ins st.spent st.uses = .error 24) := Lib.hid (by rw [HPT.out, if_pos (show topM < s + cc.coins from htop)])
                clear hM5
                go_wp2_with (first | ((with_reducible refine wpList_at 111 ?_); refine wpList_load_midG rfl 64 (.tmp 110) rfl wr.heap.size 0 rfl (ptL x.id x.out) _ r4 hUP rfl i2 ?_) | ((with_reducible refine wpList_at 112 ?_); refine wpList_lookVG rfl (.tmp 109) (.tmp 111) 142 false rfl (.map (some gS)) (.agg (ptL x.id x.out).toArray) _ rfl rfl hrun2 ?_) | ((with_reducible refine wpList_at 117 ?_); refine wpList_load_midG rfl 64 (.tmp 116) rfl wr.heap.size 0 rfl (ptL x.id x.out) _ r4 hUP rfl i2 ?_) | (refine wpList_mapUpd rfl (.tmp 115) (.tmp 117) (.const (.bool true)) 142 rfl (.map (some gS)) (.agg (ptL x.id x.out).toArray) (.bool true) rfl rfl rfl hput' ?_) | ((with_reducible refine wpList_atS 6 ?_); refine wpList_store_any rfl 86 (.tmp 6) (.tmp 124) rfl gR dz rfl rfl 86 dz gR5 (info_d _ _ _ _) rfl (one_d _ _ _ _ _ _ _ _ _ _) ?_; intro wE hE htE))
                exact HR.out _ _ _ _ _ _ _ _ _ _ _ _ _ _ _ _ _ _ _ _ _ _ _ _ _ _ _ _ _ _ _ _ _ _ _ _ _ _ _ _ _ _ _ _ _ _ _ _ _ _ _ _ _ _ _ _ _ _ _ _ _ _ _ _ _ _ _ HF.out hE (htE.below hbw5 hwR)
              · have HPN : Hid (plInK st.made m k ins st.spent st.uses = plIns st.made m k (i + 1) (ins.drop (i + 1)) (putV sp x.pt true) (us ++ [⟨k, i, x.pt, cc⟩]) (s + cc.coins)) := Lib.hid (by rw [HPT.out, if_neg (show ¬ topM < s + cc.coins from htop)])
                have htop' : ¬ (2100000000000000 : Int) < s + cc.coins := htop
                clear gR5 hbw5
                go_upto_region 34 with (first | ((with_reducible refine wpList_at 111 ?_); refine wpList_load_midG rfl 64 (.tmp 110) rfl wr.heap.size 0 rfl (ptL x.id x.out) _ r4 hUP rfl i2 ?_) | ((with_reducible refine wpList_at 112 ?_); refine wpList_lookVG rfl (.tmp 109) (.tmp 111) 142 false rfl (.map (some gS)) (.agg (ptL x.id x.out).toArray) _ rfl rfl hrun2 ?_) | ((with_reducible refine wpList_at 117 ?_); refine wpList_load_midG rfl 64 (.tmp 116) rfl wr.heap.size 0 rfl (ptL x.id x.out) _ r4 hUP rfl i2 ?_) | (refine wpList_mapUpd rfl (.tmp 115) (.tmp 117) (.const (.bool true)) 142 rfl (.map (some gS)) (.agg (ptL x.id x.out).toArray) (.bool true) rfl rfl rfl hput' ?_))
                have hul := HLL.out.2
                obtain ⟨A2, c2, A3, c3, hD5, hU5, hK5, hmM5, hmS5, hl5, hz5⟩ := hM5
                simp only at hD5 hU5 hK5 hmM5 hmS5
                obtain ⟨N, hN⟩ : ∃ N, us.length = N := ⟨_, rfl⟩
                rw [hN] at hD5 hU5 hul
                have HN := Lib.hid hN
                clear hN
                have d5 := blk_cell hD5 (i := 1) (v := .slice A2 N c2) rfl
                have huo : UsOk ⟨k, i, x.pt, cc⟩ := ⟨hpt, hcok⟩
                have hq1 := RK.Own.alloc hU5 (.cells (usCells ⟨k, i, x.pt, cc⟩).toArray 108)
                have hq2 := C1 (d := usK) (x := ⟨k, i, x.pt, cc⟩) (heap_alloc_new w5 (.cells (usCells ⟨k, i, x.pt, cc⟩).toArray 108)) ⟨rfl, huo⟩
                have hq3 : base ≤ (w5.alloc (.cells (usCells ⟨k, i, x.pt, cc⟩).toArray 108)).heap.size := by simp; omega
                have hq4 : (N + 1) * 112 ≤ 140737488355328 := by omega
                have hq5 : N + 1 ≤ maxLen := by unfold maxLen; omega
                have hDa := blk_alloc hD5 (.cells (usCells ⟨k, i, x.pt, cc⟩).toArray 108)
                have hKa := RK.Own.alloc hK5 (.cells (usCells ⟨k, i, x.pt, cc⟩).toArray 108)
                have hFa := hF5.below ((Below.refl _ _).alloc (Nat.le_refl _) (.cells (usCells ⟨k, i, x.pt, cc⟩).toArray 108))
                have hFn : Hid (some gT ≠ (Value.slice A2 N c2).ownBlock ∧ some gI ≠ (Value.slice A2 N c2).ownBlock) := Lib.hid (by obtain ⟨_, cells, h2, _⟩ := hU5; exact ⟨own_blk_ne h2 hF5.1 (by decide), own_blk_ne h2 hF5.2 (by decide)⟩)
                have hWa : Below w5.heap.size w5 (w5.alloc (.cells (usCells ⟨k, i, x.pt, cc⟩).toArray 108)) := (Below.refl _ _).alloc (Nat.le_refl _) _
                have hlo := Lib.hid (fun q hq => (RK.Own.lt hU5 q hq).1 : ∀ q, (Value.slice A2 N c2).ownBlock = some q → base ≤ q)
                have hap := Lib.hid (fun (w6 : World) (hG : (w5.alloc (.cells (usCells ⟨k, i, x.pt, cc⟩).toArray 108)).grownBy w6 (Value.slice A2 N c2).ownBlock) => own_apart hKa hq1 (by decide) hG)
                clear hput'
                go_upto_region 35 with (first
                  | ((with_reducible refine wpList_at 130 ?_); refine wpList_load_midG rfl 64 (.tmp 129) rfl wr.heap.size 0 rfl (ptL x.id x.out) _ r5 hUP rfl i2 ?_)
                  | ((with_reducible refine wpList_at 131 ?_); refine wpList_load_row rfl 106 (.tmp 20) rfl w2.heap.size rfl 106 _ _ _ g5 hUC rfl (info_cnA hcok) ?_)
                  | ((with_reducible refine wpList_at 132 ?_); refine wpList_builtA rfl 108 _ rfl _ rfl (usCells ⟨k, i, x.pt, cc⟩).toArray (built_us x.id cc.script hidl hcok.sc.1 x.out cc.coins cc.height cc.pos k i) ?_)
                  | ((with_reducible refine wpList_at 133 ?_); refine wpList_build1 rfl 83 108 _ rfl Tryd.underlying83 _ 70 112 zinfo_us (by decide) (by decide) (usCells ⟨k, i, x.pt, cc⟩) (usCells_length huo) rfl rfl ?_)
                  | ((with_reducible refine wpList_at 134 ?_); refine RK.wpList_appK usK _ rfl (.tmp 126) (.tmp 133) 83 rfl (fun _ => False) base 108 _ 112 Tryd.underlying83 zinfo_us rfl (by decide) (.slice A2 N c2) N us rfl hq1 (fun _ h => h.elim) _ 1 1 [⟨k, i, x.pt, cc⟩] rfl (fun _ => True) hq2 (fun _ _ h => h) (N + 1) _ rfl rfl hq5 hq4 hq3 ?_
                     intro A6 c6 w6 hO6 hG6 hx6
                     have hD6 := heap_grown hG6 hDa (fun e => by have := hlo.out _ e.symm; omega)
                     have d6 := blk_cell hD6 (i := 1) (v := .slice A2 N c2) rfl
                     have f6 := blk_frozen hD6 1
                     have HG6 := Lib.hid hG6
                     have hF6 := hFa.grown hG6 hFn.out.1 hFn.out.2
                     clear hq1 hq2 hq3 hq4 hq5 hDa hKa d5 hD5 hG6 hx6 hU5 hK5 hF5 hFa
                     refine wp_stopper ?_))
                refine Lib.hid ?_
                go_upto_region 35 with fail
                have hT7 := turned_setCell w6 gD 1 (.slice A6 (N + 1) c6)
                have hK6 := hap.out w6 HG6.out
                have hM7 : PlM wl gD gM gS base VI { st with spent := putV sp x.pt true, uses := us ++ [⟨k, i, x.pt, cc⟩] } (w6.setCell ⟨gD, 1, none⟩ (.slice A6 (N + 1) c6)) := by
                  have hul2 : (us ++ [(⟨k, i, x.pt, cc⟩ : Us)]).length = N + 1 := by rw [List.length_append, HN.out]; rfl
                  refine ⟨A6, c6, A3, c3, ?_, ?_, hK6.grown_ hT7.grown (fun q e => by cases e; omega), ?_, ?_, ?_, ?_⟩
                  · rw [hul2]
                    exact blk_set hD6 1 _
                  · rw [hul2]
                    exact hO6.grown_ hT7.grown (fun q e => by cases e; omega)
                  · exact ((hmM5.below hWa).grown HG6.out (fun e => by have := hlo.out _ e.symm; omega)).keep (hT7.block gM (by omega))
                  · exact ((hmS5.below hWa).grown HG6.out (fun e => by have := hlo.out _ e.symm; omega)).keep (hT7.block gS (by omega))
                  · exact hT7.below ((below_then hl5 hl5.size hWa).grown HG6.out (below_then hl5 hl5.size hWa).size (fun q e => by have := hlo.out _ e; omega)) hlD
                  · have h1 := HG6.out.size
                    have h2 := hWa.size
                    rw [hT7.size]
                    omega
                have hF7 := hF6.turned hT7 (by omega) (by omega)
                have HLL2 : Hid ((putV sp x.pt true).length ≤ L + (i + 1) ∧ (us ++ [(⟨k, i, x.pt, cc⟩ : Us)]).length ≤ L + (i + 1)) := Lib.hid ⟨by have := putV_length sp x.pt true; have := HLL.out.1; omega, by rw [List.length_append, HN.out]; simp; omega⟩
                clear hD6 d6 f6 hO6 hK6 hT7 hmM5 hmS5 hl5 hap g5 r5 c0 hrun2 hF6
                go_wp2
                go_roundw
                case rel => exact ⟨i + 1, _, _, s + cc.coins, by omega, by go_num, rfl, by omega, by omega, HPN, HLL2, hM7, hF7⟩
                case measure => simp [intOf]; omega
      · have hlt' : ¬ (i : Int) < (n1 : Int) := by omega
        have HF : Hid (plInK st.made m k ins st.spent st.uses = .ok (sp, us, s)) := Lib.hid (by rw [HP.out, List.drop_eq_nil_of_le (by rw [HLN.out]; omega)]; rfl)
        have hle := HLL.out
        go_wp2
        exact HE.out _ _ _ _ _ _ _ _ _ _ _ _ _ _ _ _ _ _ _ _ _ _ _ _ _ _ _ _ _ _ _ _ _ _ _ _ _ _ _ _ _ _ _ _ _ _ _ _ _ _ _ _ _ _ _ _ _ _ _ _ _ _ _ _ _ _ _ _ _ HF.out hM hF (by omega) (by omega) hs0 hs1
end Go.Proofs.YtclkgflficlmiaaDoor
end

/-! ## CoinPo -/
section
set_option maxRecDepth 100000
set_option linter.unusedVariables false
namespace Go.Proofs.YtclkgflficlmiaaDoor
open Go Go.RowKit
noncomputable def plB4 : Code := ((Tryd.f42.body.bind (findBk 4)).getD .skip)
set_option maxHeartbeats 16000000 in
theorem pl_outs {u0 u2 u3 u4 u5 u6 u7 u8 u13 u15 u16 u17 u18 u19 u20 u21 u22 u23 u24 u25 u26 u27 u28 u29 u30 u31 u32 u33 u34 u35 u36 u37 u38 u39 u40 u41 u42 u43 u44 u45 u46 u47 u48 u49 u50 u51 u52 u53 u54 u55 u56 u57 u58 u59 u60 u61 u62 u63 u64 u65 u66 u67 u68 u69 u70 u71 u72 u73 u74 u75 u76 u77 u78 u79 u80 u81 u82 u83 u84 u85 u86 u87 u88 u89 u90 u91 u92 u93 u94 u95 u96 u97 u98 u99 u100 u101 u102 u103 u104 u105 u106 u107 u108 u109 u110 u111 u112 u113 u114 u115 u116 u117 u118 u119 u120 u121 u122 u123 u124 u125 u126 u127 u128 u129 u130 u131 u132 u133 u134 u135 u136 u137 u138 u139 u140 u141 u142 u143 u144 u145 u146 u147 u148 u149 u150 u151 u152 u153 u154 u155 u156 u157 u158 u159 u163 u164 u165 u166 u167 u168 u169 u170 u171 u172 u173 u174 u175 u176 u177 u178 u179 u180 u181 u182 u183 u184 u185 u186 u187 u188 u189 u190 u191 u192 : Value} (wl wr0 : World) (hT : Tabs wl) (gD gM gS base k gI : Nat) (VI : Value) (id : List Int) (hd : Dig id) (hgI : wr0.heap[gI]? = some (.cells (nums .u8 id).toArray 24)) (hbI : base ≤ gI)
    (hlD : wl.heap.size ≤ gD) (hDM : gD < gM) (hMS : gM < gS) (hSb : gS < base) (S : Nat → Prop) (A2 : Option Addr) (n2 c2 : Nat) (outs : List TOut) (hn2 : n2 ≤ c2) (hc2 : c2 ≤ maxLen) (hn : n2 ≤ 1024) (hO : outK.C S wl A2 n2 outs)
    (ht : Int) (st : PlS) (L : Nat) (hL : L ≤ 2000000000) (hl1 : st.made.length ≤ L) (hl2 : st.makes.length ≤ L) (hM0 : PlM wl gD gM gS base VI st wr0) (Q0 : Exit → Act → World → Prop)
    (hexit : ∀ x24 x25 x26 x27 x162 x163 x164 x165 x166 x167 x168 x169 x170 x171 x172 x173 x174 x175 x176 x177 x178 x179 x180 x181 x182 x183 x184 x185 x186 x187 x188 x189 x190 w', PlM wl gD gM gS base VI { st with made := putAll st.made (mkOuts id ht k 0 outs), makes := st.makes ++ mkOuts id ht k 0 outs } w' → Q0 .normal ⟨#[u0, .int .i64 ht, u2, u3, u4, u5, u6, u7, u8, .pointer (some ⟨gD, 0, none⟩), .map (some gM), .map (some gS), .int .i64 (k : Int), u13, .pointer (some ⟨gI, 0, none⟩), u15, u16, u17, u18, u19, u20, u21, u22, u23, x24, x25, x26, x27, u28, u29, u30, u31, u32, u33, u34, u35, u36, u37, u38, u39, u40, u41, u42, u43, u44, u45, u46, u47, u48, u49, u50, u51, u52, u53, u54, u55, u56, u57, u58, u59, u60, u61, u62, u63, u64, u65, u66, u67, u68, u69, u70, u71, u72, u73, u74, u75, u76, u77, u78, u79, u80, u81, u82, u83, u84, u85, u86, u87, u88, u89, u90, u91, u92, u93, u94, u95, u96, u97, u98, u99, u100, u101, u102, u103, u104, u105, u106, u107, u108, u109, u110, u111, u112, u113, u114, u115, u116, u117, u118, u119, u120, u121, u122, u123, u124, u125, u126, u127, u128, u129, u130, u131, u132, u133, u134, u135, u136, u137, u138, u139, u140, u141, u142, u143, u144, u145, u146, u147, u148, u149, u150, u151, u152, u153, u154, u155, u156, u157, u158, u159, .slice A2 n2 c2, .int .i64 (n2 : Int), x162, x163, x164, x165, x166, x167, x168, x169, x170, x171, x172, x173, x174, x175, x176, x177, x178, x179, x180, x181, x182, x183, x184, x185, x186, x187, x188, x189, x190, u191, u192], []⟩ w') :
    Code.wp Tryd.prog plB4 Q0 ⟨#[u0, .int .i64 ht, u2, u3, u4, u5, u6, u7, u8, .pointer (some ⟨gD, 0, none⟩), .map (some gM), .map (some gS), .int .i64 (k : Int), u13, .pointer (some ⟨gI, 0, none⟩), u15, u16, u17, u18, u19, u20, u21, u22, u23, u24, u25, u26, u27, u28, u29, u30, u31, u32, u33, u34, u35, u36, u37, u38, u39, u40, u41, u42, u43, u44, u45, u46, u47, u48, u49, u50, u51, u52, u53, u54, u55, u56, u57, u58, u59, u60, u61, u62, u63, u64, u65, u66, u67, u68, u69, u70, u71, u72, u73, u74, u75, u76, u77, u78, u79, u80, u81, u82, u83, u84, u85, u86, u87, u88, u89, u90, u91, u92, u93, u94, u95, u96, u97, u98, u99, u100, u101, u102, u103, u104, u105, u106, u107, u108, u109, u110, u111, u112, u113, u114, u115, u116, u117, u118, u119, u120, u121, u122, u123, u124, u125, u126, u127, u128, u129, u130, u131, u132, u133, u134, u135, u136, u137, u138, u139, u140, u141, u142, u143, u144, u145, u146, u147, u148, u149, u150, u151, u152, u153, u154, u155, u156, u157, u158, u159, .slice A2 n2 c2, .int .i64 (n2 : Int), .int .i64 0, u163, u164, u165, u166, u167, u168, u169, u170, u171, u172, u173, u174, u175, u176, u177, u178, u179, u180, u181, u182, u183, u184, u185, u186, u187, u188, u189, u190, u191, u192], []⟩ wr0 := by
  have HE := Lib.hid hexit
  have hlb : wl.heap.size ≤ base := by omega
  have hUP := Tryd.underlying64
  have hUC := Tryd.underlying106
  have hUH := Tryd.underlying24
  have hUM := Tryd.underlying99
  have hc2' := hc2
  unfold maxLen at hc2'
  have hn2I : (n2 : Int) ≤ 9223372036854775807 := by omega
  have HLN := Lib.hid hO.len
  have HL1 := Lib.hid hl1
  have HL2 := Lib.hid hl2
  have hM0' : PlM wl gD gM gS base VI { st with made := putAll st.made (mkOuts id ht k 0 (outs.take 0)), makes := st.makes ++ mkOuts id ht k 0 (outs.take 0) } wr0 := by
    have e : ({ st with made := putAll st.made (mkOuts id ht k 0 (outs.take 0)), makes := st.makes ++ mkOuts id ht k 0 (outs.take 0) } : PlS) = st := by simp [mkOuts, putAll]
    rw [e]
    exact hM0
  clear hexit hl1 hl2 hM0
  conv => arg 2; whnf
  go_wp2
  go_loopw [162] (fun v162 wr => ∃ (i : Nat), i ≤ n2 ∧ v162 = .int .i64 i ∧ wr.heap[gI]? = some (.cells (nums .u8 id).toArray 24) ∧ PlM wl gD gM gS base VI { st with made := putAll st.made (mkOuts id ht k 0 (outs.take i)), makes := st.makes ++ mkOuts id ht k 0 (outs.take i) } wr) (fun v _ => n2 - (intOf v).toNat)
  case atStart => exact ⟨0, by omega, rfl, hgI, hM0'⟩
  case round =>
    clear hM0' hgI
    obtain ⟨i, hi, rfl, hgI, hM⟩ := hrel
    by_cases hlt : i < n2
    · have hlt' : (i : Int) < (n2 : Int) := by omega
      have hii : (0 : Int) ≤ (i : Int) := by omega
      have hi32 : (i : Int) ≤ 4294967295 := by omega
      have hb : Below wl.heap.size wl wr := by obtain ⟨_, _, _, _, _, _, _, _, _, h, _⟩ := hM; exact h
      have hbr : base ≤ wr.heap.size := by obtain ⟨_, _, _, _, _, _, _, _, _, _, h⟩ := hM; exact h
      obtain ⟨bo, oo, x, hAo, hxo0, hc0, hc1, hxo⟩ := out_at hO i hlt
      subst hAo
      have HX := Lib.hid hxo0
      have hc0' := cell_below hb hc0
      have hc1' := cell_below hb hc1
      have hsf : Dig (sumF (bytesOf x.script)) := ⟨sumF_length _, sumF_bytes _⟩
      obtain ⟨dd, hdd⟩ : ∃ d, sumF (bytesOf x.script) = d := ⟨_, rfl⟩
      rw [hdd] at hsf
      have HDD := Lib.hid hdd
      have HCC : Hid (mkCn x ht k = ⟨x.coins, dd, ht, k⟩) := Lib.hid (by rw [← hdd]; rfl)
      have hcok : (⟨x.coins, dd, ht, k⟩ : Cn).Ok := ⟨hsf⟩
      have hpt : PtOk (id, (i : Int)) := ⟨hd, hii, hi32⟩
      clear hc0 hc1 hxo0 hdd
      go_upto_region 46 with fail
      have hba : Below wr.heap.size wr (wr.alloc (.cells #[.int .i64 x.coins, .string x.script] 62)) := (Below.refl _ _).alloc (Nat.le_refl _) _
      refine wp_gen (q := fun wi => wi.heap[wr.heap.size]? = some (.cells #[.int .i64 x.coins, .string x.script] 62) ∧ Below wr.heap.size wr wi) ⟨heap_alloc_new _ _, hba⟩ (fun w2 hw => ?_)
      clear hba hc0' hc1'
      obtain ⟨g2, hb2⟩ := hw
      have hI2 := heap_below hb2 hgI
      have hM2 := hM.below hlb hb2
      have hlt2 := heap_lt g2
      clear hM hb
      go_upto_region 47 with (first
        | ((with_reducible refine wpList_at 167 ?_); refine wpList_load_row rfl 24 (.tmp 14) rfl gI rfl 24 _ _ _ hI2 hUH rfl (info_h id hd.1) ?_)
        | ((with_reducible refine wpList_at 170 ?_); refine wpList_builtA rfl 64 _ rfl _ rfl (ptL id (i : Int)).toArray (built_point id hd.1 (i : Int)) ?_)
        | ((with_reducible refine wpList_atS 26 ?_); refine wpList_store_any rfl 64 (.tmp 26) (.tmp 170) rfl w2.heap.size (ptL id (i : Int)).toArray rfl rfl 64 (ptL zeros32 0).toArray (heap_alloc_new _ _) (info_ptA hd.1 _) (size_pt zeros32_len hd.1 0 _) (ptL_all _ _) ?_; intro w3 g3 ht3))
      have hb3 : Below w2.heap.size w2 w3 := ht3.below ((Below.refl _ _).alloc (Nat.le_refl _) _) (Nat.le_refl _)
      have hI3 := heap_below hb3 hI2
      have g2' := heap_below hb3 g2
      have hM3 := hM2.below hlb hb3
      have hlt3 := heap_lt g3
      have t0 : w3.drew.cell? ⟨wr.heap.size, 0, none⟩ = some (.int .i64 x.coins) := blk_cell g2' rfl
      have t1 : w3.drew.cell? ⟨wr.heap.size, 1, none⟩ = some (.string x.script) := blk_cell g2' rfl
      have hbl3 : Below wl.heap.size wl w3 := by obtain ⟨_, _, _, _, _, _, _, _, _, h, _⟩ := hM3; exact h
      clear hM2 hI2 ht3 hb3 g2
      go_frame
      go_cut [27] from 171 to 178 (fun v27 wd => ∃ g, v27 = .pointer (some ⟨g, 0, none⟩) ∧ w3.heap.size ≤ g ∧ wd.heap[g]? = some (.cells (cnCells ⟨x.coins, dd, ht, k⟩).toArray 106) ∧ Below w3.heap.size w3 wd)
      case first =>
        refine wp_region_noPanic ?_
        refine wp_region_held_drew (S := fun w' => w'.cell? ⟨wr.heap.size, 0, none⟩ = some (.int .i64 x.coins) ∧ w'.cell? ⟨wr.heap.size, 1, none⟩ = some (.string x.script) ∧ Below w3.heap.size w3 w') (by kernel_rfl) ⟨t0, t1, Below.drew (Below.refl _ _)⟩ (fun hHeld => ?_)
        refine wpAnyH_take (i := 0) (oi := ⟨some 171, _, _, _, _, _⟩) (v := ?_) rfl (by kernel_rfl) (by kernel_rfl) (by kernel_rfl) (fun _ _ _ h => h) (Or.inl ⟨by rfl, ?_⟩) (by assumption) ?_
        rotate_left 1
        · intro w hSw; (try dsimp only at hSw); go_simp; try with_reducible rfl
        simp only [Act.put, List.setIfInBounds_toArray, List.set_cons_zero, List.set_cons_succ]
        refine wpAnyH_take (i := 1) (oi := ⟨some 172, _, _, _, _, _⟩) (v := ?_) rfl (by kernel_rfl) (by kernel_rfl) (by kernel_rfl) (fun _ _ _ h => h) (Or.inl ⟨by rfl, ?_⟩) (by assumption) ?_
        rotate_left 1
        · intro w hSw; (try dsimp only at hSw); go_simp; try with_reducible rfl
        simp only [Act.put, List.setIfInBounds_toArray, List.set_cons_zero, List.set_cons_succ]
        refine wpAnyH_take (i := 2) (oi := ⟨some 173, _, _, _, _, _⟩) (v := ?_) rfl (by kernel_rfl) (by kernel_rfl) (by kernel_rfl) (fun _ _ _ h => h) (Or.inl ⟨by rfl, ?_⟩) (by assumption) ?_
        rotate_left 1
        · intro w hSw; (try dsimp only at hSw); go_simp; try with_reducible rfl
        simp only [Act.put, List.setIfInBounds_toArray, List.set_cons_zero, List.set_cons_succ]
        refine wpAnyH_take (i := 3) (oi := ⟨some 174, _, _, _, _, _⟩) (v := ?_) rfl (by kernel_rfl) (by kernel_rfl) (by kernel_rfl) (fun _ _ _ h => h) (Or.inl ⟨by rfl, ?_⟩) (by assumption) ?_
        rotate_left 1
        · intro w hSw; (try dsimp only at hSw); go_simp; try with_reducible rfl
        simp only [Act.put, List.setIfInBounds_toArray, List.set_cons_zero, List.set_cons_succ]
        refine wpAnyH_take (i := 5) (oi := ⟨some 176, _, _, _, _, _⟩) (v := ?_) rfl (by kernel_rfl) (by kernel_rfl) (by kernel_rfl) (fun _ _ _ h => h) (Or.inl ⟨by rfl, ?_⟩) (by assumption) ?_
        rotate_left 1
        · intro w hSw; (try dsimp only at hSw); go_simp; try with_reducible rfl
        simp only [Act.put, List.setIfInBounds_toArray, List.set_cons_zero, List.set_cons_succ]
        refine wpAnyH_take (i := 6) (oi := ⟨some 177, _, _, _, _, _⟩) (v := ?_) rfl (by kernel_rfl) (by kernel_rfl) (by kernel_rfl) (fun _ _ _ h => h) (Or.inl ⟨by rfl, ?_⟩) (by assumption) ?_
        rotate_left 1
        · intro w hSw; (try dsimp only at hSw); go_simp; try with_reducible rfl
        simp only [Act.put, List.setIfInBounds_toArray, List.set_cons_zero, List.set_cons_succ]
        refine wpAnyH_ready (rs := [4, 8]) (by kernel_rfl) (by simp) ?_
        refine AllReadyH.cons (o := ⟨some 175, _, _, _, _, _⟩) rfl (fun K hK => ?_) (AllReadyH.cons (o := ⟨some 27, _, _, _, _, _⟩) rfl (fun K hK => ?_) AllReadyH.nil)
        · go_simp
          refine (script_calls _ (hT.below (below_then hbl3 hbl3.size hHeld.2.2)) x.script hxo.sc).mono ?_
          rintro e w5 ⟨rfl, hbz⟩
          rw [HDD.out]
          
          refine hK.out _ _ ⟨cell_below hbz hHeld.1, cell_below hbz hHeld.2.1, below_then hHeld.2.2 hHeld.2.2.size hbz⟩ (fun hHeld' => ?_)
          clear hHeld
          have hHeld := hHeld'
          clear hHeld'
          clear hK K
          try (simp only [Act.put, List.setIfInBounds_toArray, List.set_cons_zero, List.set_cons_succ])
          refine wpAnyH_take (i := 7) (oi := ⟨some 178, _, _, _, _, _⟩) (v := .agg (cnCells ⟨x.coins, dd, ht, k⟩).toArray) rfl (by kernel_rfl) (by kernel_rfl) (by kernel_rfl) (fun _ _ _ h => h) (yieldsIf_build (by rfl) 106 #[(0, .tmp 172), (1, .tmp 175), (2, .tmp 176), (3, .tmp 177)] rfl [(0, .int .i64 x.coins), (1, .agg (nums .u8 dd).toArray), (2, .int .i64 ht), (3, .int .i64 (k : Int))] rfl (cnCells ⟨x.coins, dd, ht, k⟩).toArray (built_cn x.coins dd hsf.1 ht k)) (by assumption) ?_
          simp only [Act.put, List.setIfInBounds_toArray, List.set_cons_zero, List.set_cons_succ]
          refine wpAnyH_ready (rs := [8]) (by kernel_rfl) (by simp) ?_
          refine AllReadyH.cons (o := ⟨some 27, _, _, _, _, _⟩) rfl (fun K hK => ?_) AllReadyH.nil
          go_simp
          have hbz : Below w5.heap.size w5 (w5.alloc (.cells (cnCells cn0).toArray 106)) := (Below.refl _ _).alloc (Nat.le_refl _) _
          have hgA : (w5.alloc (.cells (cnCells cn0).toArray 106)).heap[w5.heap.size]? = some (.cells (cnCells cn0).toArray 106) := heap_alloc_new _ _
          have hlo : w3.heap.size ≤ w5.heap.size := hHeld.2.2.size
          refine hK.out _ _ ⟨cell_below hbz hHeld.1, cell_below hbz hHeld.2.1, below_then hHeld.2.2 hHeld.2.2.size hbz⟩ (fun hHeld' => ?_)
          clear hHeld
          have hHeld := hHeld'
          clear hHeld'
          clear hK K
          try (simp only [Act.put, List.setIfInBounds_toArray, List.set_cons_zero, List.set_cons_succ])
          refine wpAnyH_ready (rs := [9]) (by kernel_rfl) (by simp) ?_
          refine AllReadyH.cons (o := ⟨none, _, _, _, _, _⟩) rfl (fun K hK => ?_) AllReadyH.nil
          refine step_store_any (by rfl) 106 (.tmp 27) (.tmp 178) rfl w5.heap.size (cnCells ⟨x.coins, dd, ht, k⟩).toArray rfl rfl 106 (cnCells cn0).toArray hgA (info_cnA hcok) (size_cn cn0_ok hcok) (cnCells_all _) ?_
          intro wE hE htE
          have hBE := htE.below hHeld.2.2 hlo
          refine hK.out _ _ ⟨(cell_move (htE.block wr.heap.size (by omega))).trans hHeld.1, (cell_move (htE.block wr.heap.size (by omega))).trans hHeld.2.1, hBE⟩ (fun hHeld' => ?_)
          clear hHeld
          clear hK K
          try (simp only [Act.put])
          refine wpAnyH_done (by kernel_rfl) ?_ _
          refine NoPanic.normal ?_
          go_wp2_with fail
          go_meet
          case rel => exact ⟨w5.heap.size, rfl, hlo, hE, hBE⟩
        · go_simp
          have hbz : Below w3.drew.heap.size w3.drew (w3.drew.alloc (.cells (cnCells cn0).toArray 106)) := (Below.refl _ _).alloc (Nat.le_refl _) _
          have hgA : (w3.drew.alloc (.cells (cnCells cn0).toArray 106)).heap[w3.drew.heap.size]? = some (.cells (cnCells cn0).toArray 106) := heap_alloc_new _ _
          have hlo : w3.heap.size ≤ w3.drew.heap.size := hHeld.2.2.size
          refine hK.out _ _ ⟨cell_below hbz hHeld.1, cell_below hbz hHeld.2.1, below_then hHeld.2.2 hHeld.2.2.size hbz⟩ (fun hHeld' => ?_)
          clear hHeld
          have hHeld := hHeld'
          clear hHeld'
          clear hK K
          try (simp only [Act.put, List.setIfInBounds_toArray, List.set_cons_zero, List.set_cons_succ])
          refine wpAnyH_ready (rs := [4]) (by kernel_rfl) (by simp) ?_
          refine AllReadyH.cons (o := ⟨some 175, _, _, _, _, _⟩) rfl (fun K hK => ?_) AllReadyH.nil
          go_simp
          refine (script_calls _ (hT.below (below_then hbl3 hbl3.size hHeld.2.2)) x.script hxo.sc).mono ?_
          rintro e w5 ⟨rfl, hbz⟩
          rw [HDD.out]
          have hgA := heap_below hbz hgA
          have hsz := hbz.size
          refine hK.out _ _ ⟨cell_below hbz hHeld.1, cell_below hbz hHeld.2.1, below_then hHeld.2.2 hHeld.2.2.size hbz⟩ (fun hHeld' => ?_)
          clear hHeld
          have hHeld := hHeld'
          clear hHeld'
          clear hK K
          try (simp only [Act.put, List.setIfInBounds_toArray, List.set_cons_zero, List.set_cons_succ])
          refine wpAnyH_take (i := 7) (oi := ⟨some 178, _, _, _, _, _⟩) (v := .agg (cnCells ⟨x.coins, dd, ht, k⟩).toArray) rfl (by kernel_rfl) (by kernel_rfl) (by kernel_rfl) (fun _ _ _ h => h) (yieldsIf_build (by rfl) 106 #[(0, .tmp 172), (1, .tmp 175), (2, .tmp 176), (3, .tmp 177)] rfl [(0, .int .i64 x.coins), (1, .agg (nums .u8 dd).toArray), (2, .int .i64 ht), (3, .int .i64 (k : Int))] rfl (cnCells ⟨x.coins, dd, ht, k⟩).toArray (built_cn x.coins dd hsf.1 ht k)) (by assumption) ?_
          simp only [Act.put, List.setIfInBounds_toArray, List.set_cons_zero, List.set_cons_succ]
          refine wpAnyH_ready (rs := [9]) (by kernel_rfl) (by simp) ?_
          refine AllReadyH.cons (o := ⟨none, _, _, _, _, _⟩) rfl (fun K hK => ?_) AllReadyH.nil
          refine step_store_any (by rfl) 106 (.tmp 27) (.tmp 178) rfl w3.drew.heap.size (cnCells ⟨x.coins, dd, ht, k⟩).toArray rfl rfl 106 (cnCells cn0).toArray hgA (info_cnA hcok) (size_cn cn0_ok hcok) (cnCells_all _) ?_
          intro wE hE htE
          have hBE := htE.below hHeld.2.2 hlo
          refine hK.out _ _ ⟨(cell_move (htE.block wr.heap.size (by omega))).trans hHeld.1, (cell_move (htE.block wr.heap.size (by omega))).trans hHeld.2.1, hBE⟩ (fun hHeld' => ?_)
          clear hHeld
          clear hK K
          try (simp only [Act.put])
          refine wpAnyH_done (by kernel_rfl) ?_ _
          refine NoPanic.normal ?_
          go_wp2_with fail
          go_meet
          case rel => exact ⟨w3.drew.heap.size, rfl, hlo, hE, hBE⟩
      case rest =>
        obtain ⟨g27, rfl, hg27, g4, hb4⟩ := hcut
        have hM4 := hM3.below hlb hb4
        have g3' := heap_below hb4 g3
        have hI4 := heap_below hb4 hI3
        have hlc := heap_lt g4
        have hz4 := hb4.size
        clear hM3 g3 hI3 g2' t0 t1 hb4 hbl3
        have hroom : (putAll st.made (mkOuts id ht k 0 (outs.take i))).length < maxLen := by
          have h1 := putAll_length (mkOuts id ht k 0 (outs.take i)) st.made
          rw [mkOuts_length, List.length_take] at h1
          have h2 := HL1.out
          unfold maxLen
          omega
        obtain ⟨w5, hput, hm5, ht5⟩ := MapV.put (P := Tryd.prog) keyPt hUM (by obtain ⟨_, _, _, _, _, _, _, h, _⟩ := hM4; exact h) hroom hpt (⟨x.coins, dd, ht, k⟩ : Cn)
        have hput' : (Instr.mapUpdate 99 (.map (some gM)) (.agg (ptL id (i : Int)).toArray) (.agg (cnCells ⟨x.coins, dd, ht, k⟩).toArray)).run Tryd.prog wc = .ok () w5 := hput
        have e1 : putV (putAll st.made (mkOuts id ht k 0 (outs.take i))) (id, (i : Int)) ⟨x.coins, dd, ht, k⟩ = putAll st.made (mkOuts id ht k 0 (outs.take (i + 1))) := by
          rw [mkOuts_take HX.out, putAll_snoc, HCC.out]
        have e2 : (st.makes ++ mkOuts id ht k 0 (outs.take i)) ++ [((id, (i : Int)), (⟨x.coins, dd, ht, k⟩ : Cn))] = st.makes ++ mkOuts id ht k 0 (outs.take (i + 1)) := by
          rw [mkOuts_take HX.out, HCC.out, List.append_assoc]
        have E2 := Lib.hid e2
        have hNl : (st.makes ++ mkOuts id ht k 0 (outs.take i)).length ≤ L + i := by
          rw [List.length_append, mkOuts_length, List.length_take]
          have h2 := HL2.out
          omega
        rw [e1] at hm5
        have g3'' := ht5.keep g3' (by omega)
        have g5 := ht5.keep g4 (by omega)
        have hI5 := ht5.keep hI4 (by omega)
        obtain ⟨A2', c2', A3, c3, hD4, hU4, hK4, hmM4, hmS4, hl4, hz4'⟩ := hM4
        simp only at hD4 hU4 hK4 hmM4 hmS4
        obtain ⟨NN, hNN⟩ : ∃ N, (st.makes ++ mkOuts id ht k 0 (outs.take i)).length = N := ⟨_, rfl⟩
        rw [hNN] at hD4 hK4 hNl
        have HNN := Lib.hid hNN
        have hD5 := ht5.keep hD4 (by omega)
        have hU5 := hU4.grown_ ht5.grown (fun q e => by cases e; omega)
        have hK5 := hK4.grown_ ht5.grown (fun q e => by cases e; omega)
        have hmS5 := hmS4.keep (ht5.block gS (by omega))
        have hl5 := ht5.below hl4 (by omega)
        have hz5 : base ≤ w5.heap.size := by rw [ht5.size]; exact hz4'
        have hlc5 : g27 < w5.heap.size := by rw [ht5.size]; exact hlc
        clear hput hD4 hU4 hK4 hmM4 hmS4 hl4 hz4' hI4 ht5 e1 e2 hNN hroom
        go_upto_region 49 with (first
          | ((with_reducible refine wpList_at 180 ?_); refine wpList_load_row rfl 64 (.tmp 26) rfl w2.heap.size rfl 64 _ _ _ (by assumption) hUP rfl (info_ptA hd.1 _) ?_)
          | ((with_reducible refine wpList_at 181 ?_); refine wpList_load_row rfl 106 (.tmp 27) rfl g27 rfl 106 _ _ _ (by assumption) hUC rfl (info_cnA hcok) ?_)
          | (refine wpList_mapUpd rfl (.tmp 179) (.tmp 180) (.tmp 181) 99 rfl (.map (some gM)) (.agg (ptL id (i : Int)).toArray) (.agg (cnCells ⟨x.coins, dd, ht, k⟩).toArray) rfl rfl rfl hput' ?_))
        clear g3' g4 hput'
        have hmo : MkOk ((id, (i : Int)), (⟨x.coins, dd, ht, k⟩ : Cn)) := ⟨hpt, hcok⟩
        have d5 := blk_cell hD5 (i := 2) (v := .slice A3 NN c3) rfl
        have hq1 := RK.Own.alloc hK5 (.cells (mkCells ((id, (i : Int)), (⟨x.coins, dd, ht, k⟩ : Cn))).toArray 110)
        have hq2 := C1 (d := mkK) (x := ((id, (i : Int)), (⟨x.coins, dd, ht, k⟩ : Cn))) (heap_alloc_new w5 (.cells (mkCells ((id, (i : Int)), (⟨x.coins, dd, ht, k⟩ : Cn))).toArray 110)) ⟨rfl, hmo⟩
        have hq3 : base ≤ (w5.alloc (.cells (mkCells ((id, (i : Int)), (⟨x.coins, dd, ht, k⟩ : Cn))).toArray 110)).heap.size := by simp; omega
        have hq4 : (NN + 1) * 96 ≤ 140737488355328 := by omega
        have hq5 : NN + 1 ≤ maxLen := by unfold maxLen; omega
        have hDa := blk_alloc hD5 (.cells (mkCells ((id, (i : Int)), (⟨x.coins, dd, ht, k⟩ : Cn))).toArray 110)
        have hIa := blk_alloc hI5 (.cells (mkCells ((id, (i : Int)), (⟨x.coins, dd, ht, k⟩ : Cn))).toArray 110)
        have hUa := RK.Own.alloc hU5 (.cells (mkCells ((id, (i : Int)), (⟨x.coins, dd, ht, k⟩ : Cn))).toArray 110)
        have hWa : Below w5.heap.size w5 (w5.alloc (.cells (mkCells ((id, (i : Int)), (⟨x.coins, dd, ht, k⟩ : Cn))).toArray 110)) := (Below.refl _ _).alloc (Nat.le_refl _) _
        have hlo := Lib.hid (fun q hq => (RK.Own.lt hK5 q hq).1 : ∀ q, (Value.slice A3 NN c3).ownBlock = some q → base ≤ q)
        have hap := Lib.hid (fun (w6 : World) (hG : (w5.alloc (.cells (mkCells ((id, (i : Int)), (⟨x.coins, dd, ht, k⟩ : Cn))).toArray 110)).grownBy w6 (Value.slice A3 NN c3).ownBlock) => own_apart hUa hq1 (by decide) hG)
        have hIne : Hid (some gI ≠ (Value.slice A3 NN c3).ownBlock) := Lib.hid (by obtain ⟨_, cells, h2, _⟩ := hK5; exact own_blk_ne h2 hI5 (by decide))
        go_upto_region 50 with (first
          | ((with_reducible refine wpList_at 184 ?_); refine wpList_load_row rfl 64 (.tmp 26) rfl w2.heap.size rfl 64 _ _ _ g3'' hUP rfl (info_ptA hd.1 _) ?_)
          | ((with_reducible refine wpList_at 185 ?_); refine wpList_load_row rfl 106 (.tmp 27) rfl g27 rfl 106 _ _ _ g5 hUC rfl (info_cnA hcok) ?_)
          | ((with_reducible refine wpList_at 186 ?_); refine wpList_builtA rfl 110 _ rfl _ rfl (mkCells ((id, (i : Int)), (⟨x.coins, dd, ht, k⟩ : Cn))).toArray (built_mk id dd hd.1 hsf.1 (i : Int) x.coins ht k) ?_)
          | ((with_reducible refine wpList_at 187 ?_); refine wpList_build1 rfl 84 110 _ rfl Tryd.underlying84 _ 68 96 zinfo_mk (by decide) (by decide) (mkCells ((id, (i : Int)), (⟨x.coins, dd, ht, k⟩ : Cn))) (mkCells_length hmo) rfl rfl ?_)
          | ((with_reducible refine wpList_at 188 ?_); refine RK.wpList_appK mkK _ rfl (.tmp 183) (.tmp 187) 84 rfl (fun _ => False) base 110 _ 96 Tryd.underlying84 zinfo_mk rfl (by decide) (.slice A3 NN c3) NN _ rfl hq1 (fun _ h => h.elim) _ 1 1 [((id, (i : Int)), (⟨x.coins, dd, ht, k⟩ : Cn))] rfl (fun _ => True) hq2 (fun _ _ h => h) (NN + 1) _ rfl rfl hq5 hq4 hq3 ?_
             intro A6 c6 w6 hO6 hG6 hx6
             have hD6 := heap_grown hG6 hDa (fun e => by have := hlo.out _ e.symm; omega)
             have hI6 := heap_grown hG6 hIa hIne.out
             have d6 := blk_cell hD6 (i := 2) (v := .slice A3 NN c3) rfl
             have f6 := blk_frozen hD6 2
             have HG6 := Lib.hid hG6
             clear hq1 hq2 hq3 hq4 hq5 hDa hUa d5 hD5 hG6 hx6 hU5 hK5 hIa hI5
             refine wp_stopper ?_))
        refine Lib.hid ?_
        go_upto_region 50 with fail
        have hT7 := turned_setCell w6 gD 2 (.slice A6 (NN + 1) c6)
        have hU6 := hap.out w6 HG6.out
        have hM7 : PlM wl gD gM gS base VI { st with made := putAll st.made (mkOuts id ht k 0 (outs.take (i + 1))), makes := st.makes ++ mkOuts id ht k 0 (outs.take (i + 1)) } (w6.setCell ⟨gD, 2, none⟩ (.slice A6 (NN + 1) c6)) := by
          have hul2 : (st.makes ++ mkOuts id ht k 0 (outs.take (i + 1))).length = NN + 1 := by rw [← E2.out, List.length_append, HNN.out]; rfl
          rw [E2.out] at hO6
          refine ⟨A2', c2', A6, c6, ?_, hU6.grown_ hT7.grown (fun q e => by cases e; omega), ?_, ?_, ?_, ?_, ?_⟩
          · rw [hul2]
            exact blk_set hD6 2 _
          · rw [hul2]
            exact hO6.grown_ hT7.grown (fun q e => by cases e; omega)
          · exact ((hm5.below hWa).grown HG6.out (fun e => by have := hlo.out _ e.symm; omega)).keep (hT7.block gM (by omega))
          · exact ((hmS5.below hWa).grown HG6.out (fun e => by have := hlo.out _ e.symm; omega)).keep (hT7.block gS (by omega))
          · exact hT7.below ((below_then hl5 hl5.size hWa).grown HG6.out (below_then hl5 hl5.size hWa).size (fun q e => by have := hlo.out _ e; omega)) hlD
          · have h1 := HG6.out.size
            have h2 := hWa.size
            rw [hT7.size]
            omega
        have hI7 := hT7.keep hI6 (by omega)
        clear hD6 d6 f6 hO6 hU6 hT7 hm5 hmS5 hl5 hap g5 g3'' hI6 hlo hIne
        go_wp2
        go_roundw
        case rel => exact ⟨i + 1, by omega, by go_num, hI7, hM7⟩
        case measure => simp [intOf]; omega
    · have hlt' : ¬ (i : Int) < (n2 : Int) := by omega
      have hin : outs.take i = outs := List.take_of_length_le (by rw [HLN.out]; omega)
      rw [hin] at hM
      go_wp2
      exact HE.out _ _ _ _ _ _ _ _ _ _ _ _ _ _ _ _ _ _ _ _ _ _ _ _ _ _ _ _ _ _ _ _ _ _ hM
end Go.Proofs.YtclkgflficlmiaaDoor
end

/-! ## CoinPm0 -/
section
set_option maxRecDepth 100000
set_option linter.unusedVariables false
namespace Go.Proofs.YtclkgflficlmiaaDoor
open Go Go.RowKit
theorem chk1_zero : ∀ (ts : List TTx) (i : Nat), chk1 i ts = 0 → ∀ t ∈ ts, encErr t = 0 ∧ okC t = true
  | [], _, _, t, h => by cases h
  | y :: r, i, h, t, ht => by
    rw [chk1] at h
    split at h
    · cases h
    · rename_i h1
      split at h
      · cases h
      · split at h
        · cases h
        · rename_i h3
          rcases List.mem_cons.1 ht with rfl | ht
          · exact ⟨Decidable.byContradiction h1, by cases h4 : okC t; exact absurd h4 h3; rfl⟩
          · exact chk1_zero r (i + 1) h t ht
theorem chkF_txs {hd : Hd} {ts : List TTx} (h : chkF hd ts = 0) : ∀ t ∈ ts, encErr t = 0 ∧ okC t = true := by
  refine chk1_zero ts 0 ?_
  unfold chkF at h
  split at h
  · cases h
  · split at h
    · rename_i h1
      exact absurd h h1
    · rename_i h1
      exact Decidable.byContradiction h1
theorem cg_rng : ∀ (l : List TOut) (s z : Int), 0 ≤ s → s ≤ topM → cg l s = some z → s ≤ z ∧ z ≤ topM ∧ ∀ x ∈ l, 0 ≤ x.coins ∧ x.coins ≤ topM
  | [], s, z, h0, h1, h => by
    obtain rfl := Option.some.inj h
    exact ⟨Int.le_refl _, h1, fun x hx => by cases hx⟩
  | c :: r, s, z, h0, h1, h => by
    rw [cg] at h
    split at h
    · cases h
    · rename_i h2
      have h3 : 0 ≤ c.coins ∧ c.coins ≤ topM - s := by
        constructor
        · exact Int.not_lt.1 fun h => h2 (Or.inl h)
        · exact Int.not_lt.1 fun h => h2 (Or.inr h)
      obtain ⟨k1, k2, k3⟩ := cg_rng r (s + c.coins) z (by omega) (by omega) h
      refine ⟨by omega, k2, fun x hx => ?_⟩
      rcases List.mem_cons.1 hx with rfl | hx
      · omega
      · exact k3 x hx
theorem okC_sum {t : TTx} (h : okC t = true) : coinsV t = .tuple #[.int .i64 (outSum t), .bool true] ∧ 0 ≤ outSum t ∧ outSum t ≤ topM ∧ ∀ x ∈ t.outs, 0 ≤ x.coins ∧ x.coins ≤ topM := by
  unfold okC at h
  unfold coinsV outSum
  cases hc : cg t.outs 0 with
  | none => rw [hc] at h; cases h
  | some z =>
    obtain ⟨k1, k2, k3⟩ := cg_rng t.outs 0 z (Int.le_refl _) (by decide) hc
    exact ⟨rfl, k1, k2, k3⟩
theorem plTxs_step {ts : List TTx} {k : Nat} {y : TTx} (hy : ts[k]? = some y) (h : Int) (m : List (Pt × Cn)) (st : PlS) : plTxs h m k (ts.drop k) st = match plTx h m k y st with
    | .error e => .error e
    | .ok st' => plTxs h m (k + 1) (ts.drop (k + 1)) st' := by
  obtain ⟨hi, he⟩ := List.getElem?_eq_some_iff.1 hy
  rw [List.drop_eq_getElem_cons hi, he, plTxs]
  rfl
theorem plTx_of {h : Int} {m : List (Pt × Cn)} {k : Nat} {y : TTx} {st : PlS} (ho : openR m (idF y) = false) : plTx h m k y st = match plInK st.made m k y.ins st.spent st.uses with
    | .error e => .error e
    | .ok (sp, us, s) => if 0 < k ∧ s < outSum y then .error 24 else if 0 < k ∧ topM < st.fees + (s - outSum y) then .error 24 else .ok (plEnd h k y st sp us (if 0 < k then st.fees + (s - outSum y) else st.fees)) := by
  unfold plTx plInK
  rw [if_neg (by unfold openR at ho; rw [ho]; decide)]
  by_cases hk : k = 0
  · subst hk
    rw [if_pos rfl, if_pos rfl]
    simp
  · rw [if_neg hk, if_neg hk]
    have hp : 0 < k := by omega
    cases plIns st.made m k 0 y.ins st.spent st.uses 0 with
    | error e => rfl
    | ok z =>
      obtain ⟨sp, us, s⟩ := z
      simp [hp]
/-- Behind a transaction the bounds stand. -/
theorem PlOk.next {st : PlS} {k : Nat} (h : PlOk st (1024 * k)) {ht : Int} {y : TTx} {sp : List (Pt × Bool)} {us : List Us} {f : Int} (hy : okC y = true) (hid : Dig (idF y)) (hn : y.outs.length ≤ 1024) (h1 : sp.length ≤ 1024 * k + 1024) (h2 : us.length ≤ 1024 * k + 1024) (f0 : 0 ≤ f) (f1 : f ≤ topM) : PlOk (plEnd ht k y st sp us f) (1024 * (k + 1)) := by
  obtain ⟨_, _, _, hr⟩ := okC_sum hy
  have hm : ∀ x ∈ mkOuts (idF y) ht k 0 y.outs, MkOk x ∧ 0 ≤ x.2.coins ∧ x.2.coins ≤ topM := by
    intro x hx
    obtain ⟨j, hj⟩ := List.getElem?_of_mem hx
    have : ∀ (l : List TOut) (i j : Nat) (x : Pt × Cn), i + l.length ≤ 1024 → (mkOuts (idF y) ht k i l)[j]? = some x → ∃ o ∈ l, ∃ n : Nat, n < 1024 ∧ x = ((idF y, (n : Int)), mkCn o ht k) := by
      intro l
      induction l with
      | nil => intro i j x _ h; simp [mkOuts] at h
      | cons o r ih =>
        intro i j x hl h
        simp only [List.length_cons] at hl
        cases j with
        | zero =>
          obtain rfl : ((idF y, (i : Int)), mkCn o ht k) = x := by simpa [mkOuts] using h
          exact ⟨o, by simp, i, by omega, rfl⟩
        | succ j =>
          rw [mkOuts, List.getElem?_cons_succ] at h
          obtain ⟨o', ho', n, hn, e⟩ := ih (i + 1) j x (by omega) h
          exact ⟨o', by simp [ho'], n, hn, e⟩
    obtain ⟨o, ho, n, hn, rfl⟩ := this y.outs 0 j x (by omega) hj
    exact ⟨⟨⟨hid, by show (0 : Int) ≤ (n : Int); omega, by show (n : Int) ≤ 4294967295; omega⟩, ⟨⟨sumF_length _, sumF_bytes _⟩⟩⟩, hr o ho⟩
  have hl := mkOuts_length (idF y) ht k y.outs 0
  refine ⟨fun x hx => ?_, fun x hx => ?_, ?_, ?_, ?_, ?_, f0, f1⟩
  · rcases mem_putAll hx with hx | hx
    · exact h.made x hx
    · exact (hm x hx).1
  · rcases mem_putAll hx with hx | hx
    · exact h.rng x hx
    · exact (hm x hx).2
  · show us.length ≤ _
    omega
  · show (st.makes ++ mkOuts (idF y) ht k 0 y.outs).length ≤ _
    rw [List.length_append, hl]
    have := h.makes
    omega
  · show (putAll st.made (mkOuts (idF y) ht k 0 y.outs)).length ≤ _
    have h1 := putAll_length (mkOuts (idF y) ht k 0 y.outs) st.made
    have := h.mlen
    omega
  · show sp.length ≤ _
    omega
def PlanRes (w w' : World) : Except Int Df → Ending → Prop
  | .error x, e => e = .returned (.tuple #[.agg dz, .int .i64 x])
  | .ok d, e => ∃ A1 c1 A2 c2 A3 c3, e = .returned (.tuple #[.agg #[.slice A1 d.ids.length c1, .slice A2 d.uses.length c2, .slice A3 d.makes.length c3, .int .i64 d.fees], .int .i64 0]) ∧
      HOwn w' w.heap.size 24 (.slice A1 d.ids.length c1) d.ids.length d.ids ∧ usK.Own (fun _ => False) w' w.heap.size 108 (.slice A2 d.uses.length c2) d.uses.length d.uses ∧ mkK.Own (fun _ => False) w' w.heap.size 110 (.slice A3 d.makes.length c3) d.makes.length d.makes
def PlanPost (w : World) (r : Except Int Df) (e : Ending) (w' : World) : Prop := Below w.heap.size w w' ∧ PlanRes w w' r e
theorem PlanPost.err {w w' : World} {r : Except Int Df} {x : Int} {e : Ending} (hb : Below w.heap.size w w') (h : r = .error x) (he : e = .returned (.tuple #[.agg dz, .int .i64 x])) : PlanPost w r e w' := by
  subst h
  exact ⟨hb, he⟩
theorem PlanPost.good {w w' : World} {r : Except Int Df} {d : Df} {e : Ending} {A1 A2 A3 : Option Addr} {c1 c2 c3 n : Nat} (hb : Below w.heap.size w w') (h : r = .ok d) (hn : d.ids.length = n) (he : e = .returned (.tuple #[.agg #[.slice A1 n c1, .slice A2 d.uses.length c2, .slice A3 d.makes.length c3, .int .i64 d.fees], .int .i64 0]))
    (h1 : HOwn w' w.heap.size 24 (.slice A1 n c1) n d.ids) (h2 : usK.Own (fun _ => False) w' w.heap.size 108 (.slice A2 d.uses.length c2) d.uses.length d.uses) (h3 : mkK.Own (fun _ => False) w' w.heap.size 110 (.slice A3 d.makes.length c3) d.makes.length d.makes) : PlanPost w r e w' := by
  subst h
  subst hn
  exact ⟨hb, A1, c1, A2, c2, A3, c3, he, h1, h2, h3⟩
theorem planF_ok {hd : Hd} {ts : List TTx} {h : Int} {m : List (Pt × Cn)} (h0 : 0 ≤ h) (h1 : h ≤ 1073741824) (hc : chkF hd ts = 0) : planF hd ts h 0 m = match plTxs h m 0 ts pl0 with
    | .error e => .error e
    | .ok st => .ok ⟨idsF ts, st.uses, st.makes, st.fees⟩ := by
  unfold planF
  rw [if_neg (by omega), if_neg (by rw [hc]; decide), if_neg (by decide)]
  rfl
end Go.Proofs.YtclkgflficlmiaaDoor
end

/-! ## CoinPm -/
section
set_option maxRecDepth 100000
set_option linter.unusedVariables false
namespace Go.Proofs.YtclkgflficlmiaaDoor
open Go Go.RowKit
set_option maxHeartbeats 16000000 in
theorem plan_calls (w : World) (hT : Tabs w) (hN : Now w) (vw : Value) (eF : Int) (m : List (Pt × Cn)) (G : World → Prop) (hV : ViewOk vw eF m G) (hG : G w) (S : Nat → Prop) (h : Hd) (hk : h.Ok) (A : Option Addr) (n c : Nat) (ts : List TTx) (hnc : n ≤ c) (hcm : c ≤ maxLen) (hn : n ≤ 1000000) (hC : txK.C S w A n ts) (ht : Int) :
    Calls Tryd.prog 42 #[.agg (blkCells h A n c).toArray, .int .i64 ht, vw] w (PlanPost w (planF h ts ht eF m)) := by
  have hU := Tryd.underlying54
  have hUB := Tryd.underlying49
  have hUD := Tryd.underlying86
  have hUH := Tryd.underlying24
  have hiB := info_blkA hk A n c
  have hcm' := hcm
  unfold maxLen at hcm'
  have hnI : (n : Int) ≤ 9223372036854775807 := by omega
  have hln := Lib.hid hC.len
  obtain ⟨vt, vv, rfl⟩ := hV.nn
  have HV := Lib.hid hV
  clear hV
  have g0 := heap_alloc_new w (.cells (blkCells h A n c).toArray 49)
  have g0' := blk_alloc g0 (.cells dz 86)
  have gR0 := heap_alloc_new (w.alloc (.cells (blkCells h A n c).toArray 49)) (.cells dz 86)
  have e1 : (w.alloc (.cells (blkCells h A n c).toArray 49)).heap.size = w.heap.size + 1 := by simp
  rw [e1] at gR0
  have hb0 : Below w.heap.size w ((w.alloc (.cells (blkCells h A n c).toArray 49)).alloc (.cells dz 86)) := ((Below.refl _ _).alloc (Nat.le_refl _) _).alloc (by simp) _
  go_enter Tryd.func42, Tryd.ntmps42
  go_upto_region 1 with fail
  refine wp_gen (q := fun wi => Below w.heap.size w wi ∧ wi.heap[w.heap.size]? = some (.cells (blkCells h A n c).toArray 49) ∧ wi.heap[w.heap.size + 1]? = some (.cells dz 86)) ⟨hb0, g0', gR0⟩ (fun w0 hw => ?_)
  clear hb0 g0 g0' gR0 e1
  obtain ⟨hb0, g0, gR0⟩ := hw
  by_cases h1 : ht < 0
  · have h1' : decide (ht < 0) = true := decide_eq_true h1
    have HF : Hid (planF h ts ht eF m = .error 1) := Lib.hid (by unfold planF; rw [if_pos (Or.inl h1)])
    go_wp2_with (first | ((with_reducible refine wpList_atS 6 ?_); refine wpList_store_any rfl 86 (.tmp 6) (.tmp 38) rfl (w.heap.size + 1) dz rfl rfl 86 dz gR0 (info_d _ _ _ _) rfl (one_d _ _ _ _ _ _ _ _ _ _) ?_; intro wE hE htE))
    exact bodyPost_ret (results_cell_tmp rfl _ _ (w.heap.size + 1) 86 dz (0, 0) _ rfl hE hUD rfl (info_d _ _ _ _)) rfl (PlanPost.err (htE.below hb0 (by omega)) HF.out rfl)
  · have h1' : decide (ht < 0) = false := decide_eq_false h1
    by_cases h2 : 1073741824 < ht
    · have h2' : decide (1073741824 < ht) = true := decide_eq_true h2
      have HF : Hid (planF h ts ht eF m = .error 1) := Lib.hid (by unfold planF; rw [if_pos (Or.inr h2)])
      go_wp2_with (first | ((with_reducible refine wpList_atS 6 ?_); refine wpList_store_any rfl 86 (.tmp 6) (.tmp 38) rfl (w.heap.size + 1) dz rfl rfl 86 dz gR0 (info_d _ _ _ _) rfl (one_d _ _ _ _ _ _ _ _ _ _) ?_; intro wE hE htE))
      exact bodyPost_ret (results_cell_tmp rfl _ _ (w.heap.size + 1) 86 dz (0, 0) _ rfl hE hUD rfl (info_d _ _ _ _)) rfl (PlanPost.err (htE.below hb0 (by omega)) HF.out rfl)
    · have h2' : decide (1073741824 < ht) = false := decide_eq_false h2
      have H1 := Lib.hid (Int.not_lt.1 h1)
      have H2 := Lib.hid (Int.not_lt.1 h2)
      clear h1 h2
      go_wp2_with (first | ((with_reducible refine wpList_at 39 ?_); refine wpList_load_row rfl 49 (.tmp 3) rfl w.heap.size rfl 49 _ _ _ g0 hUB rfl hiB ?_))
      refine (chk_calls w0 (hT.below hb0) (hN.below hb0) S h hk A n c ts hnc hcm hn (RK.C.below hC hb0)).mono ?_
      rintro e w1 ⟨rfl, hb1⟩
      have g1 := heap_below hb1 g0
      have gR1 := heap_below hb1 gR0
      have hB1 := below_then hb0 hb0.size hb1
      clear hb0 g0 gR0 hb1 h1' h2'
      obtain ⟨ce, hce⟩ : ∃ e, chkF h ts = e := ⟨_, rfl⟩
      rw [hce]
      by_cases hc0 : ce = 0
      · subst hc0
        have HCE := Lib.hid hce
        have htx := chkF_txs hce
        have HTX := Lib.hid htx
        have hOk : ∀ t ∈ ts, t.Ok := fun t ht => by
          obtain ⟨i, hi, rfl⟩ := List.mem_iff_getElem.1 ht
          obtain ⟨b, o, hA, _, _, hc⟩ := hC.2 (by have := hC.1; omega)
          obtain ⟨cs, hK, _⟩ := hc i _ (List.getElem?_eq_getElem hi)
          exact txK_okT hK
        have hlb : ∀ t ∈ ts, (layF t false).length ≤ 9000000000 ∧ Bytes (layF t false) := fun t ht =>
          ⟨layF_le t (fun x hx => ((hOk t ht).ins x hx).idl) (encErr_zero (htx t ht).1).1 false, layF_bytes (hOk t ht) false⟩
        have HLB := Lib.hid hlb
        have hT1 := hT.below hB1
        have hC1 := RK.C.below hC hB1
        clear hce htx hOk hlb hC
        go_wp2_with (first | ((with_reducible refine wpList_at 45 ?_); refine wpList_load_row rfl 49 (.tmp 3) rfl w.heap.size rfl 49 _ _ _ g1 hUB rfl hiB ?_))
        refine (ids_calls w1 hT1 S h hk A n c ts hnc hcm hn hC1 HLB.out).mono ?_
        rintro e w5 ⟨A8, c8, rfl, hO8, hb5⟩
        have g5 := heap_below hb5 g1
        have gR5 := heap_below hb5 gR1
        have hB5 := below_then hB1 hB1.size hb5
        have hT5 := hT.below hB5
        have hC5 := RK.C.below hC1 hb5
        have hG5 := HV.out.keep hG hB5
        have hsz1 := hB1.size
        have hlR := heap_lt gR5
        have hlR1 := heap_lt gR1
        clear g1 gR1 hB1 hT1 hC1 hb5
        have hda := heap_alloc_new w5 (.cells #[.slice A8 n c8, .slice none 0 0, .slice none 0 0, .int .i64 0] 86)
        have hba : Below w5.heap.size w5 (w5.alloc (.cells #[.slice A8 n c8, .slice none 0 0, .slice none 0 0, .int .i64 0] 86)) := (Below.refl _ _).alloc (Nat.le_refl _) _
        go_upto_region 7 with fail
        refine wp_gen (q := fun wi => wi.heap[w5.heap.size]? = some (.cells #[.slice A8 n c8, .slice none 0 0, .slice none 0 0, .int .i64 0] 86) ∧ Below w5.heap.size w5 wi) ⟨hda, hba⟩ (fun w6 hw => ?_)
        clear hda hba
        obtain ⟨hD6, hb6⟩ := hw
        have hm0 : MapV PtOk (w6.alloc (.map #[] 0)) w6.heap.size pkv cnv ([] : List (Pt × Cn)) := MapV.made w6
        have hbm : Below w6.heap.size w6 (w6.alloc (.map #[] 0)) := (Below.refl _ _).alloc (Nat.le_refl _) _
        have km := run_makeMap (P := Tryd.prog) 99 w6
        go_upto_region 8 with fail
        clear km
        refine wp_gen (q := fun wi => MapV PtOk wi w6.heap.size pkv cnv ([] : List (Pt × Cn)) ∧ Below w6.heap.size w6 wi) ⟨hm0, hbm⟩ (fun w7 hw => ?_)
        clear hm0 hbm
        obtain ⟨hM7, hb7⟩ := hw
        have hm0 : MapV PtOk (w7.alloc (.map #[] 0)) w7.heap.size pkv Value.bool ([] : List (Pt × Bool)) := MapV.made w7
        have hbm : Below w7.heap.size w7 (w7.alloc (.map #[] 0)) := (Below.refl _ _).alloc (Nat.le_refl _) _
        have km := run_makeMap (P := Tryd.prog) 142 w7
        go_upto_region 9 with fail
        clear km
        refine wp_gen (q := fun wi => MapV PtOk wi w7.heap.size pkv Value.bool ([] : List (Pt × Bool)) ∧ Below w7.heap.size w7 wi) ⟨hm0, hbm⟩ (fun w8 hw => ?_)
        clear hm0 hbm
        obtain ⟨hS8, hb8⟩ := hw
        have hDM := heap_lt hD6
        have hMS := hM7.lt
        have hSb := hS8.lt
        have hb58 : Below w5.heap.size w5 w8 := below_then (below_then hb6 hb6.size hb7) (by have := hb6.size; have := hb7.size; omega) hb8
        have hM0 : PlM w5 w5.heap.size w6.heap.size w7.heap.size w8.heap.size (.slice A8 n c8) pl0 w8 :=
          ⟨none, 0, none, 0, heap_below hb8 (heap_below hb7 hD6), RK.Own.nil _ _ _ _ _, RK.Own.nil _ _ _ _ _, hM7.below hb8, hS8, hb58, Nat.le_refl _⟩
        have tS : w8.cell? ⟨w.heap.size, 68, none⟩ = some (.slice A n c) := cell_below hb58 (blk_cell g5 (by rw [List.getElem?_toArray]; exact blkCells_at hk A n c))
        have hO0 : Hid (PlOk pl0 (1024 * 0)) := Lib.hid ⟨(fun x hx => by cases hx), (fun x hx => by cases hx), Nat.zero_le _, Nat.zero_le _, Nat.zero_le _, Nat.zero_le _, Int.le_refl _, by decide⟩
        have HIL : Hid ((idsF ts).length = n) := Lib.hid (by unfold idsF; rw [List.length_map]; exact hln.out)
        have hH8 : hashK.C (fun q => w1.heap.size ≤ q) w5 A8 n (idsF ts) := hO8.C_ (fun _ h => h.elim) (fun q e => (hO8.lt q e).1)
        have HO8 := Lib.hid hO8
        clear hD6 hb6 hM7 hb7 hS8 hb8 hO8
        go_wp2
        go_loopw [53] (fun v53 wr => ∃ (k : Nat) (st : PlS), k ≤ n ∧ v53 = .int .i64 k ∧ PlM w5 w5.heap.size w6.heap.size w7.heap.size w8.heap.size (.slice A8 n c8) st wr ∧ Hid (PlOk st (1024 * k)) ∧ Hid (eF = 0 ∨ k = 0) ∧ Hid (plTxs ht m 0 ts pl0 = plTxs ht m k (ts.drop k) st)) (fun v _ => n - (intOf v).toNat)
        case atStart => exact ⟨0, pl0, by omega, rfl, hM0, hO0, Lib.hid (Or.inr rfl), Lib.hid (by rw [List.drop_zero])⟩
        case round =>
          clear hM0 hO0 tS hb58
          obtain ⟨k, st, hkn, rfl, hM, HOK, HE0, HP⟩ := hrel
          have hb : Below w5.heap.size w5 wr := by obtain ⟨_, _, _, _, _, _, _, _, _, h, _⟩ := hM; exact h
          have hbr : w8.heap.size ≤ wr.heap.size := by obtain ⟨_, _, _, _, _, _, _, _, _, _, h⟩ := hM; exact h
          by_cases hlt : k < n
          · have hlt' : (k : Int) < (n : Int) := by omega
            have hkk : (0 : Int) ≤ (k : Int) := by omega
            obtain ⟨b, o, cs, y, hA, hy, hKy, hcy⟩ := hC5.get k hlt
            subst hA
            have HY := Lib.hid hy
            obtain ⟨Y1, yc1, Y2, yc2, rfl, y1, y2, y3, y4, hIy, hOy⟩ := txK_form hKy
            have y2' := y2
            have y4' := y4
            unfold maxLen at y2' y4'
            have hry : wr.rangeAt b (o + k * 4) [.int .i32 y.ver, .slice Y1 y.ins.length yc1, .slice Y2 y.outs.length yc2, .int .u32 y.lock] := range_below hb hcy
            have hj4 := info_tx4 (.int .i32 y.ver) (.slice Y1 y.ins.length yc1) (.slice Y2 y.outs.length yc2) (.int .u32 y.lock)
            have hbd := (encErr_zero (HTX.out y (List.mem_of_getElem? hy)).1).1
            obtain ⟨hi1, ho1⟩ : y.ins.length ≤ 1024 ∧ y.outs.length ≤ 1024 := ⟨hbd.i1, hbd.o1⟩
            have hos := okC_sum (HTX.out y (List.mem_of_getElem? hy)).2
            obtain ⟨zo, hzo⟩ : ∃ z, outSum y = z := ⟨_, rfl⟩
            rw [hzo] at hos
            have HZO := Lib.hid hzo
            have HOS := Lib.hid hos
            have hid0 := idF_dig y
            obtain ⟨di, hdi⟩ : ∃ d, idF y = d := ⟨_, rfl⟩
            rw [hdi] at hid0
            have HDI := Lib.hid hdi
            have hxi : (idsF ts)[k]? = some di := by unfold idsF; rw [List.getElem?_map, hy, ← hdi]; rfl
            obtain ⟨b8, o8, hA8, _, hr8⟩ := HC.addr hH8 (by omega)
            subst hA8
            have rx5 := hr8 k hlt
            have hdge : dg (idsF ts) k = di := by
              have := dg_get (idsF ts) k (by rw [HIL.out]; exact hlt)
              rw [hxi] at this
              exact (Option.some.inj this).symm
            rw [hdge] at rx5
            clear hy hcy hbd hos hzo hdi hxi hr8 hdge
            go_upto_region 12 with (first
              | ((with_reducible refine wpList_at 57 ?_); refine wpList_load_mid rfl 54 (.tmp 56) rfl b (o + k * 4) rfl [.int .i32 y.ver, .slice Y1 y.ins.length yc1, .slice Y2 y.outs.length yc2, .int .u32 y.lock] _ hry hU rfl hj4 ?_))
            refine wp_gen (q := fun wi => wi.heap[wr.heap.size]? = some (.cells ([.int .i32 y.ver, .slice Y1 y.ins.length yc1, .slice Y2 y.outs.length yc2, .int .u32 y.lock]).toArray 54) ∧ Below wr.heap.size wr wi) ⟨heap_alloc_new _ _, (Below.refl _ _).alloc (Nat.le_refl _) _⟩ (fun wa hw => ?_)
            obtain ⟨gTa, hba⟩ := hw
            have hMa := hM.below (by omega) hba
            have hb5a := below_then hb hb.size hba
            have rxa := range_below hb5a rx5
            have hDa : ∃ A2 c2 A3 c3, wa.heap[w5.heap.size]? = some (.cells #[.slice (some ⟨b8, o8, none⟩) n c8, .slice A2 st.uses.length c2, .slice A3 st.makes.length c3, .int .i64 st.fees] 86) := by
              obtain ⟨A2, c2, A3, c3, h, _⟩ := hMa
              exact ⟨A2, c2, A3, c3, h⟩
            obtain ⟨A2a, c2a, A3a, c3a, hDa⟩ := hDa
            have d0 := blk_cell hDa (i := 0) (v := .slice (some ⟨b8, o8, none⟩) n c8) rfl
            have hiD := info_hh di hid0.1
            have hlta := heap_lt gTa
            clear hM hb hry hba rx5
            go_upto_region 13 with (first
              | ((with_reducible refine wpList_at 62 ?_); refine wpList_load_mid rfl 24 (.tmp 61) rfl b8 (o8 + k * 32) rfl (nums .u8 di) _ rxa hUH rfl hiD ?_)
              | ((with_reducible refine wpList_atS 14 ?_); refine wpList_store_any rfl 24 (.tmp 14) (.tmp 62) rfl wa.heap.size (nums .u8 di).toArray rfl rfl 24 (nums .u8 zeros32).toArray (heap_alloc_new _ _) (info_h di hid0.1) (size_h di hid0.1) (nums_all _ _) ?_; intro wb gIb htb))
            have hbb : Below wa.heap.size wa wb := htb.below ((Below.refl _ _).alloc (Nat.le_refl _) _) (Nat.le_refl _)
            have gTb := heap_below hbb gTa
            have hMb := hMa.below (by omega) hbb
            have hb5b := below_then hb5a hb5a.size hbb
            have hGb := HV.out.keep hG5 hb5b
            obtain ⟨fO, argsO, hmO, hcO⟩ := HV.out.op wb hGb di hid0
            have HMO := Lib.hid hmO
            have HCO := Lib.hid hcO
            have hltb := heap_lt gIb
            clear gTa hMa hb5a rxa hDa d0 htb hbb hGb hmO hcO
            go_upto_region 14 with (first
              | ((with_reducible refine wpList_at 65 ?_); refine wpList_load_row rfl 24 (.tmp 14) rfl wa.heap.size rfl 24 _ _ _ gIb hUH rfl (info_h di hid0.1) ?_)
              | ((with_reducible refine wpList_at 66 ?_); refine wpList_invoke rfl (.tmp 64) (.tmp 65) "Open" _ rfl (.iface vt vv) _ rfl rfl fO argsO HMO.out _ HCO.out ?_; intro wc hbc))
            have gTc := heap_below hbc gTb
            have gIc := heap_below hbc gIb
            have hMc := hMb.below (by omega) hbc
            have hb5c := below_then hb5b hb5b.size hbc
            have hBc := below_then hB5 hB5.size hb5c
            have gRc := heap_below hb5c gR5
            clear gTb gIb hMb hb5b hbc HMO HCO
            by_cases heF : eF = 0
            · subst heF
              cases hop : openR m di with
              | true =>
                have HF : Hid (planF h ts ht 0 m = .error 23) := Lib.hid (by
                  rw [planF_ok H1.out H2.out HCE.out, HP.out, plTxs_step HY.out]
                  have : plTx ht m k y st = .error 23 := by unfold plTx; rw [if_pos (by rw [HDI.out]; exact hop)]
                  rw [this])
                clear hop
                go_wp2_with (first | ((with_reducible refine wpList_atS 6 ?_); refine wpList_store_any rfl 86 (.tmp 6) (.tmp 74) rfl (w.heap.size + 1) dz rfl rfl 86 dz gRc (info_d _ _ _ _) rfl (one_d _ _ _ _ _ _ _ _ _ _) ?_; intro wE hE htE))
                exact bodyPost_ret (results_cell_tmp rfl _ _ (w.heap.size + 1) 86 dz (0, 0) _ rfl hE hUD rfl (info_d _ _ _ _)) rfl (PlanPost.err (htE.below hBc (by omega)) HF.out rfl)
              | false =>
                have HP2 : Hid (plTxs ht m 0 ts pl0 = match plInK st.made m k y.ins st.spent st.uses with
                    | .error e => .error e
                    | .ok (sp, us, s) => match (if 0 < k ∧ s < zo then .error 24 else if 0 < k ∧ topM < st.fees + (s - zo) then .error 24 else .ok (plEnd ht k y st sp us (if 0 < k then st.fees + (s - zo) else st.fees)) : Except Int PlS) with
                      | .error e => .error e
                      | .ok st' => plTxs ht m (k + 1) (ts.drop (k + 1)) st') := Lib.hid (by
                  rw [HP.out, plTxs_step HY.out, plTx_of (by rw [HDI.out]; exact hop), HZO.out]
                  cases plInK st.made m k y.ins st.spent st.uses with
                  | error e => rfl
                  | ok z => obtain ⟨sp, us, s⟩ := z; rfl)
                have tX1 : wc.cell? ⟨wr.heap.size, 1, none⟩ = some (.slice Y1 y.ins.length yc1) := blk_cell gTc rfl
                clear hop HP
                go_upto_block 2 with fail
                refine pl_ins w w5 wc (w.heap.size + 1) w5.heap.size w6.heap.size w7.heap.size w8.heap.size k (.slice (some ⟨b8, o8, none⟩) n c8) (.iface vt vv) m G HV.out hG5 hB5 (by omega) hlR gR5 (Nat.le_refl _) hDM hMS hSb S Y1 y.ins.length yc1 y.ins y1 y2 hi1 hIy st (1024 * k) (by omega) HOK.out hMc wr.heap.size wa.heap.size ([.int .i32 y.ver, .slice Y1 y.ins.length yc1, .slice Y2 y.outs.length yc2, .int .u32 y.lock]).toArray (nums .u8 di).toArray hbr (by omega) ⟨gTc, gIc⟩ _ ?_ ?_
                · intro y_0 y_1 y_2 y_3 y_4 y_5 y_6 y_7 y_8 y_9 y_10 y_11 y_12 y_13 y_14 y_15 y_16 y_17 y_18 y_19 y_20 y_21 y_22 y_23 y_24 y_25 y_26 y_27 y_28 y_29 y_30 y_31 y_32 y_33 y_34 y_35 y_36 y_37 y_38 y_39 y_40 y_41 y_42 y_43 y_44 y_45 y_46 y_47 y_48 y_49 y_50 y_51 y_52 y_53 y_54 y_55 y_56 y_57 y_58 y_59 y_60 y_61 y_62 y_63 y_64 sp us s w9 hok9 hM9 hF9 hl9 hl9' hs0 hs1
                  have HP3 : Hid (plTxs ht m 0 ts pl0 = match (if 0 < k ∧ s < zo then .error 24 else if 0 < k ∧ topM < st.fees + (s - zo) then .error 24 else .ok (plEnd ht k y st sp us (if 0 < k then st.fees + (s - zo) else st.fees)) : Except Int PlS) with
                      | .error e => .error e
                      | .ok st' => plTxs ht m (k + 1) (ts.drop (k + 1)) st') := Lib.hid (by rw [HP2.out, hok9])
                  have hs1 : s ≤ 2100000000000000 := hs1
                  obtain ⟨gT9, gI9⟩ := hF9
                  have hb9 : Below w5.heap.size w5 w9 := by obtain ⟨_, _, _, _, _, _, _, _, _, h, _⟩ := hM9; exact h
                  have hKy9 := RK.K_below hKy hb9
                  clear hok9 hMc gTc gIc gRc hBc hb5c tX1
                  go_wp2_with (first | ((with_reducible refine wpList_at 138 ?_); refine wpList_load_row rfl 54 (.tmp 13) rfl wr.heap.size rfl 54 _ _ _ gT9 hU rfl hj4 ?_))
                  refine (coins_calls w9 S y [.int .i32 y.ver, .slice Y1 y.ins.length yc1, .slice Y2 y.outs.length yc2, .int .u32 y.lock] hKy9).mono ?_
                  rintro e w10 ⟨rfl, hb10⟩
                  rw [HOS.out.1]
                  have gT10 := heap_below hb10 gT9
                  have gI10 := heap_below hb10 gI9
                  have hM10 := hM9.below (by omega) hb10
                  have hb510 := below_then hb9 hb9.size hb10
                  have hB10 := below_then hB5 hB5.size hb510
                  have gR10 := heap_below hb510 gR5
                  have tX2 : w10.cell? ⟨wr.heap.size, 2, none⟩ = some (.slice Y2 y.outs.length yc2) := blk_cell gT10 rfl
                  obtain ⟨hz0, hz1⟩ : 0 ≤ zo ∧ zo ≤ 2100000000000000 := ⟨HOS.out.2.1, HOS.out.2.2.1⟩
                  obtain ⟨hf0, hf1⟩ : 0 ≤ st.fees ∧ st.fees ≤ 2100000000000000 := ⟨HOK.out.f0, HOK.out.f1⟩
                  have HNX : Hid (∀ f : Int, 0 ≤ f → f ≤ topM → PlOk (plEnd ht k y st sp us f) (1024 * (k + 1))) := Lib.hid (fun f h1 h2 => HOK.out.next (HTX.out y (List.mem_of_getElem? HY.out)).2 (by rw [HDI.out]; exact hid0) ho1 (by omega) (by omega) h1 h2)
                  clear hM9 gT9 gI9 hb9 hKy9 hb10
                  by_cases hk0 : k = 0
                  · have hkp : ¬ (0 : Int) < (k : Int) := by omega
                    have HP4 : Hid (plTxs ht m 0 ts pl0 = plTxs ht m (k + 1) (ts.drop (k + 1)) (plEnd ht k y st sp us st.fees)) := Lib.hid (by
                      rw [HP3.out, if_neg (by omega), if_neg (by omega), if_neg (by omega)])
                    clear hk0 gT10 hb510 hB10 gR10
                    go_upto_block 4 with fail
                    refine pl_outs w5 w10 hT5 w5.heap.size w6.heap.size w7.heap.size w8.heap.size k wa.heap.size (.slice (some ⟨b8, o8, none⟩) n c8) di hid0 gI10 (by omega) (Nat.le_refl _) hDM hMS hSb S Y2 y.outs.length yc2 y.outs y3 y4 ho1 hOy ht { st with spent := sp, uses := us } (1024 * k) (by omega) HOK.out.mlen HOK.out.makes hM10 _ ?_
                    intro z_0 z_1 z_2 z_3 z_4 z_5 z_6 z_7 z_8 z_9 z_10 z_11 z_12 z_13 z_14 z_15 z_16 z_17 z_18 z_19 z_20 z_21 z_22 z_23 z_24 z_25 z_26 z_27 z_28 z_29 z_30 z_31 z_32 w11 hM11
                    have hM12 : PlM w5 w5.heap.size w6.heap.size w7.heap.size w8.heap.size (.slice (some ⟨b8, o8, none⟩) n c8) (plEnd ht k y st sp us st.fees) w11 := by
                      unfold plEnd
                      rw [HDI.out]
                      exact hM11
                    clear hM11 hM10 gI10 tX2
                    go_wp2
                    go_roundw
                    case rel => exact ⟨k + 1, plEnd ht k y st sp us st.fees, by omega, by go_num, hM12, Lib.hid (HNX.out _ hf0 hf1), Lib.hid (by first | exact Or.inl trivial | exact Or.inl rfl), HP4⟩
                    case measure => simp [intOf]; omega
                  · have hkp : (0 : Int) < (k : Int) := by omega
                    have hkp' : 0 < k := by omega
                    clear hk0
                    by_cases hzs : s < zo
                    · have HF : Hid (planF h ts ht 0 m = .error 24) := Lib.hid (by rw [planF_ok H1.out H2.out HCE.out, HP3.out, if_pos ⟨hkp', hzs⟩])
                      clear hM10
                      go_wp2_with (first | ((with_reducible refine wpList_atS 6 ?_); refine wpList_store_any rfl 86 (.tmp 6) (.tmp 147) rfl (w.heap.size + 1) dz rfl rfl 86 dz gR10 (info_d _ _ _ _) rfl (one_d _ _ _ _ _ _ _ _ _ _) ?_; intro wE hE htE))
                      exact bodyPost_ret (results_cell_tmp rfl _ _ (w.heap.size + 1) 86 dz (0, 0) _ rfl hE hUD rfl (info_d _ _ _ _)) rfl (PlanPost.err (htE.below hB10 (by omega)) HF.out rfl)
                    · have hd0 : 0 ≤ s - zo := by omega
                      have hd1 : s - zo ≤ 2100000000000000 := by omega
                      have HP4 : Hid (plTxs ht m 0 ts pl0 = match (if topM < st.fees + (s - zo) then .error 24 else .ok (plEnd ht k y st sp us (st.fees + (s - zo))) : Except Int PlS) with
                          | .error e => .error e
                          | .ok st' => plTxs ht m (k + 1) (ts.drop (k + 1)) st') := Lib.hid (by
                        rw [HP3.out, if_neg (by omega), if_pos hkp']
                        by_cases ht' : topM < st.fees + (s - zo)
                        · rw [if_pos ⟨hkp', ht'⟩, if_pos ht']
                        · rw [if_neg (fun h => ht' h.2), if_neg ht'])
                      obtain ⟨A2, c2, A3, c3, hD10, hU10, hK10, hm10, hS10, hl10, hz10⟩ := hM10
                      simp only at hD10 hU10 hK10 hm10 hS10
                      have d3 := blk_cell hD10 (i := 3) (v := .int .i64 st.fees) rfl
                      have f3 := blk_frozen hD10 3
                      go_upto_region 41 with fail
                      refine wp_gen (q := fun wi => Turned w10 w5.heap.size wi ∧ wi.heap[w5.heap.size]? = some (.cells #[.slice (some ⟨b8, o8, none⟩) n c8, .slice A2 us.length c2, .slice A3 st.makes.length c3, .int .i64 (st.fees + (s - zo))] 86)) ⟨turned_setCell _ _ _ _, blk_set hD10 3 _⟩ (fun w11 hw => ?_)
                      obtain ⟨hT11, hD11⟩ := hw
                      have hM11 : PlM w5 w5.heap.size w6.heap.size w7.heap.size w8.heap.size (.slice (some ⟨b8, o8, none⟩) n c8) { st with spent := sp, uses := us, fees := st.fees + (s - zo) } w11 :=
                        ⟨A2, c2, A3, c3, hD11, hU10.grown_ hT11.grown (fun q e => by cases e; omega), hK10.grown_ hT11.grown (fun q e => by cases e; omega), hm10.keep (hT11.block _ (by omega)), hS10.keep (hT11.block _ (by omega)), hT11.below hl10 (Nat.le_refl _), by rw [hT11.size]; exact hz10⟩
                      have d3' := blk_cell hD11 (i := 3) (v := .int .i64 (st.fees + (s - zo))) rfl
                      have tX2' : w11.cell? ⟨wr.heap.size, 2, none⟩ = some (.slice Y2 y.outs.length yc2) := (cell_move (hT11.block _ (by omega))).trans tX2
                      have gI11 := hT11.keep gI10 (by omega)
                      have gR11 := hT11.keep gR10 (by omega)
                      have hB11 := hT11.below hB10 (by omega)
                      clear d3 f3 hD10 hU10 hK10 hm10 hS10 hl10 hz10 hT11 hD11 tX2 gI10 gR10 hB10 gT10 hb510
                      by_cases htop : 2100000000000000 < st.fees + (s - zo)
                      · have HF : Hid (planF h ts ht 0 m = .error 24) := Lib.hid (by rw [planF_ok H1.out H2.out HCE.out, HP4.out, if_pos (show topM < st.fees + (s - zo) from htop)])
                        clear hM11
                        go_wp2_with (first | ((with_reducible refine wpList_atS 6 ?_); refine wpList_store_any rfl 86 (.tmp 6) (.tmp 158) rfl (w.heap.size + 1) dz rfl rfl 86 dz gR11 (info_d _ _ _ _) rfl (one_d _ _ _ _ _ _ _ _ _ _) ?_; intro wE hE htE))
                        exact bodyPost_ret (results_cell_tmp rfl _ _ (w.heap.size + 1) 86 dz (0, 0) _ rfl hE hUD rfl (info_d _ _ _ _)) rfl (PlanPost.err (htE.below hB11 (by omega)) HF.out rfl)
                      · have HP5 : Hid (plTxs ht m 0 ts pl0 = plTxs ht m (k + 1) (ts.drop (k + 1)) (plEnd ht k y st sp us (st.fees + (s - zo)))) := Lib.hid (by rw [HP4.out, if_neg (show ¬ topM < st.fees + (s - zo) from htop)])
                        have hg0 : 0 ≤ st.fees + (s - zo) := by omega
                        have hg1 : st.fees + (s - zo) ≤ 2100000000000000 := by omega
                        clear gR11 hB11
                        go_upto_block 4 with fail
                        refine pl_outs w5 w11 hT5 w5.heap.size w6.heap.size w7.heap.size w8.heap.size k wa.heap.size (.slice (some ⟨b8, o8, none⟩) n c8) di hid0 gI11 (by omega) (Nat.le_refl _) hDM hMS hSb S Y2 y.outs.length yc2 y.outs y3 y4 ho1 hOy ht { st with spent := sp, uses := us, fees := st.fees + (s - zo) } (1024 * k) (by omega) HOK.out.mlen HOK.out.makes hM11 _ ?_
                        intro z_0 z_1 z_2 z_3 z_4 z_5 z_6 z_7 z_8 z_9 z_10 z_11 z_12 z_13 z_14 z_15 z_16 z_17 z_18 z_19 z_20 z_21 z_22 z_23 z_24 z_25 z_26 z_27 z_28 z_29 z_30 z_31 z_32 w12 hM12
                        have hM13 : PlM w5 w5.heap.size w6.heap.size w7.heap.size w8.heap.size (.slice (some ⟨b8, o8, none⟩) n c8) (plEnd ht k y st sp us (st.fees + (s - zo))) w12 := by
                          unfold plEnd
                          rw [HDI.out]
                          exact hM12
                        clear hM11 hM12 gI11 tX2' d3'
                        go_wp2
                        go_roundw
                        case rel => exact ⟨k + 1, plEnd ht k y st sp us (st.fees + (s - zo)), by omega, by go_num, hM13, Lib.hid (HNX.out _ hg0 hg1), Lib.hid (by first | exact Or.inl trivial | exact Or.inl rfl), HP5⟩
                        case measure => simp [intOf]; omega
                · intro e_0 e_1 e_2 e_3 e_4 e_5 e_6 e_7 e_8 e_9 e_10 e_11 e_12 e_13 e_14 e_15 e_16 e_17 e_18 e_19 e_20 e_21 e_22 e_23 e_24 e_25 e_26 e_27 e_28 e_29 e_30 e_31 e_32 e_33 e_34 e_35 e_36 e_37 e_38 e_39 e_40 e_41 e_42 e_43 e_44 e_45 e_46 e_47 e_48 e_49 e_50 e_51 e_52 e_53 e_54 e_55 e_56 e_57 e_58 e_59 e_60 e_61 e_62 e_63 e_64 er w9 her hg9 hB9
                  have HF : Hid (planF h ts ht 0 m = .error er) := Lib.hid (by rw [planF_ok H1.out H2.out HCE.out, HP2.out, her])
                  exact bodyPost_ret (results_cell_tmp rfl _ _ (w.heap.size + 1) 86 dz (0, 0) _ rfl hg9 hUD rfl (info_d _ _ _ _)) rfl (PlanPost.err hB9 HF.out rfl)
            · have heF' : (eF != 0) = true := by rw [bne_iff_ne]; exact heF
              have HF : Hid (planF h ts ht eF m = .error eF) := Lib.hid (by
                unfold planF
                rw [if_neg (by have := H1.out; have := H2.out; omega), if_neg (by rw [HCE.out]; decide), if_pos heF])
              go_wp2_with (first | ((with_reducible refine wpList_atS 6 ?_); refine wpList_store_any rfl 86 (.tmp 6) (.tmp 71) rfl (w.heap.size + 1) dz rfl rfl 86 dz gRc (info_d _ _ _ _) rfl (one_d _ _ _ _ _ _ _ _ _ _) ?_; intro wE hE htE))
              exact bodyPost_ret (results_cell_tmp rfl _ _ (w.heap.size + 1) 86 dz (0, 0) _ rfl hE hUD rfl (info_d _ _ _ _)) rfl (PlanPost.err (htE.below hBc (by omega)) HF.out rfl)
          · have hlt' : ¬ (k : Int) < (n : Int) := by omega
            have HPE : Hid (plTxs ht m 0 ts pl0 = .ok st) := Lib.hid (by rw [HP.out, List.drop_eq_nil_of_le (by rw [hln.out]; omega)]; rfl)
            have he0 : eF = 0 := by
              rcases HE0.out with h0 | h0
              · exact h0
              · exfalso
                have hts : ts = [] := List.eq_nil_of_length_eq_zero (by rw [hln.out]; omega)
                have := HCE.out
                rw [hts] at this
                cases this
            subst he0
            have HF : Hid (planF h ts ht 0 m = .ok ⟨idsF ts, st.uses, st.makes, st.fees⟩) := Lib.hid (by rw [planF_ok H1.out H2.out HCE.out, HPE.out])
            obtain ⟨A2, c2, A3, c3, hD, hU9, hK9, hm9, hS9, hl9, hz9⟩ := hM
            have gRr := heap_below hl9 gR5
            have hBr := below_then hB5 hB5.size hl9
            have hsw := hB5.size
            have hOi := HO8.out.below hl9
            clear hH8
            go_wp2_with (first
              | ((with_reducible refine wpList_at 192 ?_); refine wpList_load_row rfl 86 (.tmp 9) rfl w5.heap.size rfl 86 _ _ _ hD hUD rfl (info_d _ _ _ _) ?_)
              | ((with_reducible refine wpList_atS 6 ?_); refine wpList_store_any rfl 86 (.tmp 6) (.tmp 192) rfl (w.heap.size + 1) #[.slice A8 n c8, .slice A2 st.uses.length c2, .slice A3 st.makes.length c3, .int .i64 st.fees] rfl rfl 86 dz gRr (info_d _ _ _ _) rfl (one_d _ _ _ _ _ _ _ _ _ _) ?_; intro wE hE htE))
            exact bodyPost_ret (results_cell_tmp rfl _ _ (w.heap.size + 1) 86 #[.slice A8 n c8, .slice A2 st.uses.length c2, .slice A3 st.makes.length c3, .int .i64 st.fees] (0, 0) _ rfl hE hUD rfl (info_d _ _ _ _)) rfl
              (PlanPost.good (htE.below hBr (by omega)) HF.out HIL.out rfl ((hOi.grown_ htE.grown (fun q e => by cases e; omega)).base_ hsz1) ((hU9.grown_ htE.grown (fun q e => by cases e; omega)).base_ (by omega)) ((hK9.grown_ htE.grown (fun q e => by cases e; omega)).base_ (by omega)))
      · have hcb : (ce != 0) = true := by rw [bne_iff_ne]; exact hc0
        have HF : Hid (planF h ts ht eF m = .error ce) := Lib.hid (by unfold planF; rw [if_neg (by have := H1.out; have := H2.out; omega), if_pos (by rw [hce]; exact hc0), hce])
        clear hce hc0
        go_wp2_with (first | ((with_reducible refine wpList_atS 6 ?_); refine wpList_store_any rfl 86 (.tmp 6) (.tmp 43) rfl (w.heap.size + 1) dz rfl rfl 86 dz gR1 (info_d _ _ _ _) rfl (one_d _ _ _ _ _ _ _ _ _ _) ?_; intro wE hE htE))
        exact bodyPost_ret (results_cell_tmp rfl _ _ (w.heap.size + 1) 86 dz (0, 0) _ rfl hE hUD rfl (info_d _ _ _ _)) rfl (PlanPost.err (htE.below hB1 (by omega)) HF.out rfl)
end Go.Proofs.YtclkgflficlmiaaDoor
end
