/- tx.Decode: the inputs. -/
import Derived.Test.YtclkgflficlmiaaDoorTxLaw
import Derived.Test.YtclkgflficlmiaaDoorRdr
import Derived.Test.YtclkgflficlmiaaDoorLayIns
import Derived.Deep.CutBlock
set_option maxRecDepth 100000
set_option linter.unusedVariables false
namespace Go.Proofs.YtclkgflficlmiaaDoor
open Go Go.RowKit
/-- An input that has no witness yet. -/
def in0K : RK TIn where
  sz := 36
  K := fun _ _ x cs => cs = inCells x (.slice none 0 0) ∧ x.Ok ∧ x.wit = []
  len := by
    rintro S w x cs ⟨rfl, h, _⟩
    exact inCells_length h.idl _
  one := by
    rintro S w x cs ⟨rfl, h, _⟩ u hu
    simp only [inCells, List.mem_append, List.mem_cons, List.not_mem_nil, or_false] at hu
    rcases hu with hu | rfl | rfl | rfl | rfl
    · exact nums_one _ _ u hu
    all_goals rfl
  move := fun _ h => h
  mono := fun _ h => h
theorem in_set32 {x : TIn} (h : x.id.length = 32) (v : Value) (o : Int) : (inCells x v).toArray.setIfInBounds 32 (.int .u32 o) = (inCells { x with out := o } v).toArray := by
  apply Array.ext'
  simp [inCells, nums_length, h]
theorem in_set33 {x : TIn} (h : x.id.length = 32) (v : Value) (o : ByteArray) : (inCells x v).toArray.setIfInBounds 33 (.string o) = (inCells { x with script := o } v).toArray := by
  apply Array.ext'
  simp [inCells, nums_length, h]
theorem in_set34 {x : TIn} (h : x.id.length = 32) (v : Value) (o : Int) : (inCells x v).toArray.setIfInBounds 34 (.int .u32 o) = (inCells { x with seq := o } v).toArray := by
  apply Array.ext'
  simp [inCells, nums_length, h]
theorem grown_far {w w1 w2 : World} {row : Option Nat} {g : Nat} (h : w.grownBy w1 row) (ht : Turned w1 g w2) (hg : w.heap.size ≤ g) : w.grownBy w2 row :=
  ⟨ht.os.trans h.os, ht.tape.trans h.tape, ht.output.trans h.output, by rw [ht.size]; exact h.size, fun q hq hne => (ht.block q (by omega)).trans (h.block q hq hne)⟩
theorem RK.Own.grown_ {α : Type} {d : RK α} {w w' : World} {base n : Nat} {e : TypeId} {v : Value} {xs : List α} {row : Option Nat} (h : d.Own (fun _ => False) w base e v n xs) (hg : w.grownBy w' row) (hne : ∀ k, row = some k → k < base) : d.Own (fun _ => False) w' base e v n xs := by
  obtain ⟨hl, cells, hown, hc⟩ := h
  refine ⟨hl, cells, hown.kept hg ?_, fun i x hx => ?_⟩
  · rcases hv : v.ownBlock with _ | k
    · exact .inl rfl
    · exact .inr (fun e => by have := hne k e.symm; have := own_base hown k hv; omega)
  · obtain ⟨cs, hK, hcs⟩ := hc i x hx
    exact ⟨cs, d.move (fun k hk => hk.elim) hK, hcs⟩
theorem zinfo_in : (Tryd.prog.info? 67).map (fun i => (i.zero, i.size, i.bytes)) = some (some (.agg (inCells in0 (.slice none 0 0)).toArray), 36, 88) := by kernel_rfl
theorem takeB32 (p : PSt) : (p.takeB 32).length = 32 ∨ p.takeB 32 = [] := by
  unfold PSt.takeB
  split
  · rename_i h
    left
    rw [List.length_take]
    omega
  · exact .inr rfl
/-- copy of a digest's bytes, or of none, to the head of an input. -/
theorem copy_in (w : World) (g : Nat) (A : Option Addr) (m c : Nat) (B : List Int) (hg : w.heap[g]? = some (.cells (inCells in0 (.slice none 0 0)).toArray 67)) (hr : Rd w A m (nums .u8 B)) (hB : B.length = 32 ∨ B = []) (ty : TypeId) :
    ∃ w', (Builtin.copy_ #[22, 22] ty #[.slice (some ⟨g, 0, none⟩) 32 32, .slice A m c]).run Tryd.prog w = .ok (.int .i64 m) w' ∧ w'.heap[g]? = some (.cells (inCells { in0 with id := zpad B } (.slice none 0 0)).toArray 67) ∧ Turned w g w' := by
  have hml : B.length = m := by have := hr.1; rwa [nums_length] at this
  rcases hB with h32 | rfl
  · obtain rfl : m = 32 := by omega
    obtain ⟨b, o, rfl, hc⟩ := hr.2 (by decide)
    have hl := hr.1
    have := run_copy_row (P := Tryd.prog) w 22 22 ty 5 g 0 32 32 ⟨b, o, none⟩ 32 c _ 67 (nums .u8 B) Tryd.underlying22 info_u8 hg (by rw [hl]; rfl)
      (fun j v hv => by rw [add_plain']; exact hc j v hv) (by rw [hl, List.size_toArray, inCells_length in0_len]; decide) (nums_one _ _)
    rw [hl] at this
    have e : (List.take 0 (inCells in0 (.slice none 0 0)).toArray.toList ++ nums .u8 B ++ List.drop (0 + 32) (inCells in0 (.slice none 0 0)).toArray.toList) = inCells { in0 with id := zpad B } (.slice none 0 0) := by
      rw [List.toList_toArray, Nat.zero_add, inCells_drop in0_len, List.take_zero, List.nil_append]
      simp [inCells, zpad, h32]
    rw [e] at this
    exact ⟨_, this, setRow_heap _ _ _ _ _ _ hg, turned_setRow w g _⟩
  · obtain rfl : m = 0 := hml.symm
    refine ⟨w, run_copy_none w 22 22 ty 5 _ _ _ _ _ _ Tryd.underlying22 info_u8 (Nat.zero_min _), ?_, ⟨rfl, rfl, rfl, rfl, fun _ _ => rfl⟩⟩
    rw [hg]
    rfl
/-- A slice literal of one element of many cells. -/
theorem wpList_build1 {P : Program} {w : World} {ops : Array Oper} {rest : List Oper} {o : Oper} {a : Act} {Q : Exit → Act → World → Prop} (hgd : o.guard = none) (t e : TypeId) (parts : Array (Nat × Operand)) (ho : o.op = .buildSlice t 1 parts)
    (ht : P.underlying t = some (.slice e)) (z : Value) (s bytes : Nat) (hinfo : (P.info? e).map (fun i => (i.zero, i.size, i.bytes)) = some (some z, s, bytes)) (hs : 0 < s) (hs1 : s ≤ 1000)
    (cells : List Value) (hcl : cells.length = s) (hz : z.cells.size = s) (hp : parts.toList.map (fun y => (y.1, a.eval y.2)) = [(0, .agg cells.toArray)])
    (h : wpList P ops Q rest (a.put o.dst (.slice (some ⟨w.heap.size, 0, none⟩) 1 1)) (w.alloc (.cells cells.toArray e))) : wpList P ops Q (o :: rest) a w := by
  obtain ⟨i, hi, hzz, hsize, hby⟩ : ∃ i, P.info? e = some i ∧ i.zero = some z ∧ i.size = s ∧ i.bytes = bytes := by
    cases h : P.info? e with
    | none => rw [h] at hinfo; cases hinfo
    | some i => rw [h] at hinfo; simp only [Option.map_some, Option.some.injEq, Prod.mk.injEq] at hinfo; exact ⟨i, rfl, hinfo.1, hinfo.2.1, hinfo.2.2⟩
  refine wpList_buildSlice hgd t e 1 parts ho cells.toArray i z ht hi hzz (by rw [hsize]; omega) (by rw [hsize]; omega) ?_ h
  rw [Array.toList_map]
  have hp' : List.map (fun x => match x with | (i, x) => (i, a.eval x)) parts.toList = [(0, .agg cells.toArray)] := hp
  rw [hp', hsize]
  have := Great.fill_whole hs [Value.agg cells.toArray] ((Array.range (1 * s)).map (z.cells[· % z.cells.size]!)) (fun v hv => by rw [List.mem_singleton.1 hv]; simp [Value.cells, hcl]) (by simp)
  simpa [Value.cells] using this
theorem in0K_one {w : World} {g : Nat} {t : TypeId} {fz : Nat × Nat} {x : TIn} (h : w.heap[g]? = some (.cells (inCells x (.slice none 0 0)).toArray t fz)) (hx : x.Ok) (hw : x.wit = []) : in0K.C (fun _ => True) w (some ⟨g, 0, none⟩) 1 [x] := by
  refine ⟨rfl, fun _ => ⟨g, 0, rfl, trivial, heap_lt h, fun i y hy => ?_⟩⟩
  obtain rfl : i = 0 := by have := (List.getElem?_eq_some_iff.1 hy).1; simp at this; omega
  obtain rfl : x = y := by simpa using hy
  refine ⟨_, ⟨rfl, hx, hw⟩, fun j v hv => ?_⟩
  rw [show 0 + 0 * in0K.sz + j = j by omega]
  exact blk_cell h (by rw [List.getElem?_toArray]; exact hv)
theorem wp_stopper {P : Prop} (h : Hid P) : P := h.out
abbrev InOwn (w : World) (base : Nat) (v : Value) (n : Nat) (xs : List TIn) : Prop := in0K.Own (fun _ => False) w base 67 v n xs
/-- The variable t of Decode. -/
abbrev tCells (ver : Int) (v1 v2 : Value) (lock : Int) : Array Value := #[.int .i32 ver, v1, v2, .int .u32 lock]
noncomputable def decB0 : Code := ((Tryd.f37.body.bind (findBk 0)).getD .skip)
set_option maxHeartbeats 8000000 in
theorem dec_ins {u0 u1 u2 u3 u4 u7 u8 u9 u10 u11 u12 u13 u14 u15 u16 u17 u18 u19 u20 u21 u22 u23 u24 u25 u26 u27 u28 u29 u30 u31 u32 u33 u34 u35 u36 u37 u38 u39 u40 u41 u42 u43 u44 u45 u46 u47 u48 u49 u50 u51 u52 u53 u54 u55 u56 u57 u60 u61 u62 u63 u64 u65 u66 u67 u68 u69 u70 u71 u72 u73 u74 u75 u76 u77 u78 u79 u80 u81 u82 u83 u84 u85 u86 u87 u88 u89 u90 u91 u92 u93 u94 u95 u96 u97 u98 u99 u100 u101 u102 u103 u104 u105 u106 u107 u108 u109 u110 u111 u112 u113 u114 u115 u116 u117 u118 u119 u120 u121 u122 u123 u124 u125 u126 u127 u128 u129 u130 u131 u132 u133 u134 u135 u136 u137 u138 u139 u140 u141 u142 u143 u144 u145 u146 u147 u148 u149 u150 u151 u152 u153 u154 u155 u156 u157 u158 u159 u160 u161 u162 u163 u164 u165 u166 u167 u168 u169 u170 u171 u172 u173 u174 u175 u176 u177 u178 u179 u180 u181 u182 u183 u184 u185 u186 u187 u188 u189 u190 u191 u192 u193 u194 u195 u196 u197 u198 u199 u200 u201 u202 u203 u204 u205 u206 u207 u208 u209 u210 u211 : Value} (w wr0 : World) (r D g6 base n0 : Nat) (ver : Int) (p0 : PSt) (hn0 : n0 ≤ 1024) (hwr : w.heap.size ≤ r) (hw6 : w.heap.size ≤ g6) (hr6 : r ≠ g6) (hrb : r < base) (h6b : g6 < base) (hDw : D < w.heap.size) (hbase : base ≤ wr0.heap.size)
    (hS0 : RSt wr0 r D p0) (hg0 : wr0.heap[g6]? = some (.cells (tCells ver (.slice none 0 0) (.slice none 0 0) 0) 54)) (hb0 : Below w.heap.size w wr0) (Q0 : Exit → Act → World → Prop)
    (hexit : ∀ x8 x59 x60 x61 x62 x63 x64 x65 x66 x67 x68 x69 x70 x71 x72 x73 x74 x75 x76 x77 x78 x79 x80 x81 x82 x83 x84 x85 x86 x87 x88 x89 x90 A' N' c' w', RSt w' r D (insP n0 p0).2 → InOwn w' base (.slice A' N' c') N' (insP n0 p0).1 → w'.heap[g6]? = some (.cells (tCells ver (.slice A' N' c') (.slice none 0 0) 0) 54) → Below w.heap.size w w' → base ≤ w'.heap.size → Q0 .normal ⟨#[u0, u1, u2, u3, u4, .pointer (some ⟨r, 0, none⟩), .pointer (some ⟨g6, 0, none⟩), u7, x8, u9, u10, u11, u12, u13, u14, u15, u16, u17, u18, u19, u20, u21, u22, u23, u24, u25, u26, u27, u28, u29, u30, u31, u32, u33, u34, u35, u36, u37, u38, u39, u40, u41, u42, u43, u44, u45, u46, u47, u48, u49, u50, u51, u52, u53, u54, u55, u56, u57, .int .i64 n0, x59, x60, x61, x62, x63, x64, x65, x66, x67, x68, x69, x70, x71, x72, x73, x74, x75, x76, x77, x78, x79, x80, x81, x82, x83, x84, x85, x86, x87, x88, x89, x90, u91, u92, u93, u94, u95, u96, u97, u98, u99, u100, u101, u102, u103, u104, u105, u106, u107, u108, u109, u110, u111, u112, u113, u114, u115, u116, u117, u118, u119, u120, u121, u122, u123, u124, u125, u126, u127, u128, u129, u130, u131, u132, u133, u134, u135, u136, u137, u138, u139, u140, u141, u142, u143, u144, u145, u146, u147, u148, u149, u150, u151, u152, u153, u154, u155, u156, u157, u158, u159, u160, u161, u162, u163, u164, u165, u166, u167, u168, u169, u170, u171, u172, u173, u174, u175, u176, u177, u178, u179, u180, u181, u182, u183, u184, u185, u186, u187, u188, u189, u190, u191, u192, u193, u194, u195, u196, u197, u198, u199, u200, u201, u202, u203, u204, u205, u206, u207, u208, u209, u210, u211], []⟩ w') :
    Code.wp Tryd.prog decB0 Q0 ⟨#[u0, u1, u2, u3, u4, .pointer (some ⟨r, 0, none⟩), .pointer (some ⟨g6, 0, none⟩), u7, u8, u9, u10, u11, u12, u13, u14, u15, u16, u17, u18, u19, u20, u21, u22, u23, u24, u25, u26, u27, u28, u29, u30, u31, u32, u33, u34, u35, u36, u37, u38, u39, u40, u41, u42, u43, u44, u45, u46, u47, u48, u49, u50, u51, u52, u53, u54, u55, u56, u57, .int .i64 n0, .int .i64 0, u60, u61, u62, u63, u64, u65, u66, u67, u68, u69, u70, u71, u72, u73, u74, u75, u76, u77, u78, u79, u80, u81, u82, u83, u84, u85, u86, u87, u88, u89, u90, u91, u92, u93, u94, u95, u96, u97, u98, u99, u100, u101, u102, u103, u104, u105, u106, u107, u108, u109, u110, u111, u112, u113, u114, u115, u116, u117, u118, u119, u120, u121, u122, u123, u124, u125, u126, u127, u128, u129, u130, u131, u132, u133, u134, u135, u136, u137, u138, u139, u140, u141, u142, u143, u144, u145, u146, u147, u148, u149, u150, u151, u152, u153, u154, u155, u156, u157, u158, u159, u160, u161, u162, u163, u164, u165, u166, u167, u168, u169, u170, u171, u172, u173, u174, u175, u176, u177, u178, u179, u180, u181, u182, u183, u184, u185, u186, u187, u188, u189, u190, u191, u192, u193, u194, u195, u196, u197, u198, u199, u200, u201, u202, u203, u204, u205, u206, u207, u208, u209, u210, u211], []⟩ wr0 := by
  have HE := Lib.hid hexit
  clear hexit
  have hU8 := Tryd.underlying67
  have hE0 : InOwn wr0 base (.slice none 0 0) 0 [] := RK.Own.nil _ _ _ _ _
  conv => arg 2; whnf
  go_wp2
  go_loopw [59] (fun v59 wr => ∃ (k : Nat) (p : PSt) (acc : List TIn) (A : Option Addr) (N c : Nat), k ≤ n0 ∧ v59 = .int .i64 k ∧ N = k ∧ Hid (insP n0 p0 = (acc ++ (insP (n0 - k) p).1, (insP (n0 - k) p).2)) ∧ RSt wr r D p ∧ InOwn wr base (.slice A N c) N acc ∧ wr.heap[g6]? = some (.cells (tCells ver (.slice A N c) (.slice none 0 0) 0) 54) ∧ Below w.heap.size w wr ∧ base ≤ wr.heap.size) (fun v _ => n0 - (intOf v).toNat)
  case atStart => exact ⟨0, p0, [], none, 0, 0, by omega, rfl, rfl, Lib.hid (by simp), hS0, hE0, hg0, hb0, hbase⟩
  case round =>
    clear hS0 hE0 hg0 hb0 hbase
    obtain ⟨k, p, acc, A, N, c, hk, rfl, hNk, HR, hS, hO, hg6, hB, hbs⟩ := hrel
    by_cases hlt : k < n0
    · have hlt' : (k : Int) < (n0 : Int) := by omega
      obtain ⟨Ar, nr, cr, hgr, _⟩ := id hS
      have e1 : wr.cell? ⟨r, 1, none⟩ = some (.int .i64 p.e) := blk_cell hgr rfl
      clear hgr
      by_cases he : p.e = 0
      · have he1 : (p.e != 0) = false := by rw [he]; rfl
        have hstep : insP n0 p0 = (acc ++ [(inP1 p).1] ++ (insP (n0 - (k + 1)) (inP1 p).2).1, (insP (n0 - (k + 1)) (inP1 p).2).2) := by
          rw [HR.out, show n0 - k = (n0 - (k + 1)) + 1 by omega, insP, if_neg (by rw [he]; decide), List.append_assoc]
          rfl
        have HST := Lib.hid hstep
        have hby := hS.bytes
        have hok := inP1_ok hby
        have hb1 : Bytes (p.take 32).bs := PSt.take_bytes hby 32
        have hb2 : Bytes ((p.take 32).take 4).bs := PSt.take_bytes hb1 4
        have hb3 : Bytes (((p.take 32).take 4).text).bs := PSt.take_bytes (PSt.count_bytes hb2 10000) _
        have hNK := Lib.hid hNk
        have HE0 := Lib.hid he
        have hgw := heap_lt hg6
        clear hstep he hNk
        go_upto_region 11 with fail
        have hh0 := heap_alloc_new wr (.cells (inCells in0 (.slice none 0 0)).toArray 67)
        have hba : Below wr.heap.size wr (wr.alloc (.cells (inCells in0 (.slice none 0 0)).toArray 67)) := (Below.refl _ _).alloc (Nat.le_refl _) _
        refine wp_gen (q := fun wi => wi.heap[wr.heap.size]? = some (.cells (inCells in0 (.slice none 0 0)).toArray 67) ∧ Below wr.heap.size wr wi) ⟨hh0, hba⟩ (fun wi hw => ?_)
        clear hh0 hba
        obtain ⟨hh, hbi⟩ := hw
        have hSi := hS.below hbi
        have hhr : wr.heap.size ≠ r := by omega
        have hhD : wr.heap.size ≠ D := by have := hB.size; omega
        clear hS
        have hSd : RSt wi.drew r D p := hSi.below (Below.drew (Below.refl _ _))
        refine wp_region_noPanic ?_
        refine wp_region_held_drew (S := fun w' => True) (by kernel_rfl) trivial (fun hHeld => ?_)
        -- 0: tx.go:200 slot 66 := Op.fieldAddr 80 t8 0
        refine wpAnyH_take (i := 0) (oi := ⟨some 66, _, _, _, _, _⟩) (v := ?_) rfl (by kernel_rfl) (by kernel_rfl) (by kernel_rfl) (fun _ _ _ h => h) (Or.inl ⟨by rfl, ?_⟩) (by assumption) ?_
        rotate_left 1
        · intro w hSw; (try dsimp only at hSw); go_simp; try with_reducible rfl
        simp only [Act.put, List.setIfInBounds_toArray, List.set_cons_zero, List.set_cons_succ]
        -- 1: tx.go:200 slot 67 := Op.fieldAddr 77 t66 0
        refine wpAnyH_take (i := 1) (oi := ⟨some 67, _, _, _, _, _⟩) (v := ?_) rfl (by kernel_rfl) (by kernel_rfl) (by kernel_rfl) (fun _ _ _ h => h) (Or.inl ⟨by rfl, ?_⟩) (by assumption) ?_
        rotate_left 1
        · intro w hSw; (try dsimp only at hSw); go_simp; try with_reducible rfl
        simp only [Act.put, List.setIfInBounds_toArray, List.set_cons_zero, List.set_cons_succ]
        -- 2: tx.go:200 slot 68 := Op.slice 25 t67 none none none
        refine wpAnyH_take (i := 2) (oi := ⟨some 68, _, _, _, _, _⟩) (v := ?_) rfl (by kernel_rfl) (by kernel_rfl) (by kernel_rfl) (fun _ _ _ h => h) (Or.inl ⟨by rfl, ?_⟩) (by assumption) ?_
        rotate_left 1
        · intro w hSw; (try dsimp only at hSw); go_simp; try with_reducible rfl
        simp only [Act.put, List.setIfInBounds_toArray, List.set_cons_zero, List.set_cons_succ]
        -- 3: tx.go:200 slot 69 := Op.move t5
        refine wpAnyH_take (i := 3) (oi := ⟨some 69, _, _, _, _, _⟩) (v := ?_) rfl (by kernel_rfl) (by kernel_rfl) (by kernel_rfl) (fun _ _ _ h => h) (Or.inl ⟨by rfl, ?_⟩) (by assumption) ?_
        rotate_left 1
        · intro w hSw; (try dsimp only at hSw); go_simp; try with_reducible rfl
        simp only [Act.put, List.setIfInBounds_toArray, List.set_cons_zero, List.set_cons_succ]
        -- 4: tx.go:200 slot 70 := Op.call { value (Operand.func 72), args := #[t69, const (32:i64)], argTypes := #[143, 3] }
        refine wpAnyH_ready (rs := [4]) (by kernel_rfl) (by simp) ?_
        refine AllReadyH.cons (o := ⟨some 70, _, _, _, _, _⟩) rfl (fun K hK => ?_) AllReadyH.nil
        go_simp
        refine (take_calls wi.drew r D p 32 (by decide) hSd _ rfl).mono ?_
        rintro e w1 ⟨A1, m1, c1, rfl, hm1, hr1, hA1, hS1, hG1⟩
        try go_wp2_with fail
        have hh1 := heap_grown hG1 (show wi.drew.heap[wr.heap.size]? = _ from hh) (fun e => hhr (Option.some.inj e))
        refine hK.out _ _ trivial (fun hHeld' => ?_)
        clear hHeld
        have hHeld := hHeld'
        clear hHeld'
        clear hK K
        try (simp only [Act.put, List.setIfInBounds_toArray, List.set_cons_zero, List.set_cons_succ])
        -- 5: tx.go:200 slot 71 := Op.call { builtin copy, args := #[t68, t70], argTypes := #[22, 22] }
        refine wpAnyH_ready (rs := [5]) (by kernel_rfl) (by simp) ?_
        refine AllReadyH.cons (o := ⟨some 71, _, _, _, _, _⟩) rfl (fun K hK => ?_) AllReadyH.nil
        obtain ⟨w2, hcp, hh2, ht2⟩ := copy_in w1 wr.heap.size A1 m1 c1 (p.takeB 32) hh1 hr1 (takeB32 p) 3
        refine step_copy (by rfl) (.tmp 68) (.tmp 70) 22 22 (by rfl) _ _ _ _ (by rfl) (by rfl) hcp ?_
        refine hK.out _ _ trivial (fun hHeld' => ?_)
        clear hHeld
        have hHeld := hHeld'
        clear hHeld'
        clear hcp
        clear hK K
        try (simp only [Act.put, List.setIfInBounds_toArray, List.set_cons_zero, List.set_cons_succ])
        refine wpAnyH_done (by kernel_rfl) ?_ _
        refine NoPanic.normal ?_
        have hF2 : wr.grownBy w2 (some r) := grown_far (grown_trans (grown_of_below hbi (some r)) (grown_below (Below.drew (Below.refl _ _)) hG1)) ht2 (Nat.le_refl _)
        have hS2 : RSt w2 r D (p.take 32) := hS1.keep (ht2.block r (fun e => hhr e.symm)) (ht2.block D (fun e => hhD e.symm))
        have hzl : (zpad (p.takeB 32)).length = 32 := zpad_length _ (PSt.takeB_len p 32)
        obtain ⟨gi, hgi⟩ : ∃ gi, gi = wr.heap.size := ⟨_, rfl⟩
        rw [← hgi] at hh2 hhr hhD ⊢
        clear hh1 ht2 hG1 hS1 hr1 hA1 hSd hbi hSi hh
        have r1 := le4_takeB hb1
        have r2 := le4_takeB hb3
        have hwa : IntKind.u32.wrap (ofLE ((p.take 32).takeB 4)) = ofLE ((p.take 32).takeB 4) := by rw [IntKind.wrap_u32]; omega
        have hwb : IntKind.u32.wrap (ofLE ((((p.take 32).take 4).text).takeB 4)) = ofLE ((((p.take 32).take 4).text).takeB 4) := by rw [IntKind.wrap_u32]; omega
        clear r1 r2 hb1 hb2 hb3
        have HGI := Lib.hid hgi
        clear hgi
        go_wp2_with fail
        refine (rlit_calls w2 r D _ 4 (by decide) hS2 _ rfl).mono ?_
        rintro e w3 ⟨rfl, hS3, hG3⟩
        have hh3 := heap_grown hG3 hh2 (fun e => hhr (Option.some.inj e))
        have hF3 := grown_trans hF2 hG3
        have c3 := blk_cell hh3 (i := 32) (v := .int .u32 0) (by rw [List.getElem?_toArray]; exact inCells_at hzl _ 0)
        have f3 := blk_frozen hh3 32
        have hh4 := blk_set hh3 32 (.int .u32 (ofLE ((p.take 32).takeB 4)))
        rw [in_set32 hzl] at hh4
        have ht4 := turned_setCell w3 gi 32 (.int .u32 (ofLE ((p.take 32).takeB 4)))
        have hS4 := hS3.keep (ht4.block r (fun e => hhr e.symm)) (ht4.block D (fun e => hhD e.symm))
        have hF4 := grown_far hF3 ht4 (by rw [HGI.out]; exact Nat.le_refl _)
        clear hG3 hF2 hS2 hh2 hS3 hF3 ht4 hh3
        go_wp2_with fail
        refine (rtext_calls _ r D _ hS4).mono ?_
        rintro e w5 ⟨rfl, hS5, hG5⟩
        have hh5 := heap_grown hG5 hh4 (fun e => hhr (Option.some.inj e))
        have hF5 := grown_trans hF4 hG5
        have c5 := blk_cell hh5 (i := 33) (v := .string ⟨#[]⟩) (by rw [List.getElem?_toArray]; exact inCells_at hzl _ 1)
        have f5 := blk_frozen hh5 33
        have hh6 := blk_set hh5 33 (.string (strOfNums (((p.take 32).take 4).textB)))
        rw [in_set33 hzl] at hh6
        have ht6 := turned_setCell w5 gi 33 (.string (strOfNums (((p.take 32).take 4).textB)))
        have hS6 := hS5.keep (ht6.block r (fun e => hhr e.symm)) (ht6.block D (fun e => hhD e.symm))
        have hF6 := grown_far hF5 ht6 (by rw [HGI.out]; exact Nat.le_refl _)
        clear hG5 hF4 hS4 hh4 hS5 hF5 ht6 hh5 c3 f3
        go_wp2_with fail
        refine (rlit_calls _ r D _ 4 (by decide) hS6 _ rfl).mono ?_
        rintro e w7 ⟨rfl, hS7, hG7⟩
        have hh7 := heap_grown hG7 hh6 (fun e => hhr (Option.some.inj e))
        have hF7 := grown_trans hF6 hG7
        have c7 := blk_cell hh7 (i := 34) (v := .int .u32 0) (by rw [List.getElem?_toArray]; exact inCells_at hzl _ 2)
        have f7 := blk_frozen hh7 34
        have hh8 := blk_set hh7 34 (.int .u32 (ofLE ((((p.take 32).take 4).text).takeB 4)))
        rw [in_set34 hzl] at hh8
        have ht8 := turned_setCell w7 gi 34 (.int .u32 (ofLE ((((p.take 32).take 4).text).takeB 4)))
        have hS8 := hS7.keep (ht8.block r (fun e => hhr e.symm)) (ht8.block D (fun e => hhD e.symm))
        have hF8 := grown_far hF7 ht8 (by rw [HGI.out]; exact Nat.le_refl _)
        clear hG7 hF6 hS6 hh6 hS7 hF7 ht8 hh7 c5 f5
        have hg8 := heap_grown hF8 hg6 (fun e => hr6 (Option.some.inj e).symm)
        have d8 := blk_cell hg8 (i := 1) (v := .slice A N c) rfl
        have hO8 : InOwn _ base (.slice A N c) N acc := RK.Own.grown_ hO hF8 (fun k e => by cases e; exact hrb)
        have hx1 : (w7.setCell ⟨gi, 34, none⟩ (.int .u32 (ofLE ((((p.take 32).take 4).text).takeB 4)))).heap[gi]? = some (.cells (inCells (inP1 p).1 (.slice none 0 0)).toArray 67) := hh8
        have hidl := hok.idl
        have hbs8 : base ≤ (w7.setCell ⟨gi, 34, none⟩ (.int .u32 (ofLE ((((p.take 32).take 4).text).takeB 4)))).heap.size := by have := hF8.size; omega
        have hNl : N + 1 ≤ 1025 := by have := hNK.out; omega
        clear hh8 hO hg6
        go_upto_region 15 with fail
        refine wp_gen (q := fun W => W.heap[g6]? = some (.cells (tCells ver (.slice A N c) (.slice none 0 0) 0) 54) ∧ W.heap[gi]? = some (.cells (inCells (inP1 p).1 (.slice none 0 0)).toArray 67) ∧ RSt W r D (inP1 p).2 ∧ InOwn W base (.slice A N c) N acc ∧ base ≤ W.heap.size ∧ wr.grownBy W (some r)) ⟨hg8, hx1, hS8, hO8, hbs8, hF8⟩ (fun W hw => ?_)
        clear hg8 hx1 hS8 hO8 hbs8 hF8 c7 f7 d8
        obtain ⟨hg8, hx1, hS8, hO8, hbs8, hF8⟩ := hw
        have d8 := blk_cell hg8 (i := 1) (v := .slice A N c) rfl
        have hq1 : InOwn (W.alloc (.cells (inCells (inP1 p).1 (.slice none 0 0)).toArray 67)) base (.slice A N c) N acc := RK.Own.alloc hO8 _
        have hq2 : in0K.C (fun _ => True) (W.alloc (.cells (inCells (inP1 p).1 (.slice none 0 0)).toArray 67)) (some ⟨W.heap.size, 0, none⟩) 1 [(inP1 p).1] := in0K_one (heap_alloc_new _ _) hok rfl
        have hq3 : base ≤ (W.alloc (.cells (inCells (inP1 p).1 (.slice none 0 0)).toArray 67)).heap.size := by simp; omega
        have hq4 : (N + 1) * 88 ≤ 140737488355328 := by omega
        have hq5 : N + 1 ≤ maxLen := by unfold maxLen; omega
        have hzi := zinfo_in
        have hzc : (Value.agg (inCells in0 (.slice none 0 0)).toArray).cells.size = in0K.sz := rfl
        have hq6 := heap_alloc_new W (.cells (inCells (inP1 p).1 (.slice none 0 0)).toArray 67)
        have hg8a := blk_alloc hg8 (.cells (inCells (inP1 p).1 (.slice none 0 0)).toArray 67)
        go_upto_region 16 with (first
          | (refine wpList_load_row rfl 67 (.tmp 8) rfl gi rfl _ _ _ _ hx1 hU8 rfl (info_inA _ hidl _) ?_)
          | (refine wpList_build1 rfl 51 67 _ rfl Tryd.underlying51 _ 36 88 zinfo_in (by decide) (by decide) (inCells (inP1 p).1 (.slice none 0 0)) (inCells_length hidl _) rfl rfl ?_)
          | (refine RK.wpList_appK in0K _ rfl (.tmp 85) (.tmp 87) 51 rfl (fun _ => False) base 67 _ 88 Tryd.underlying51 hzi hzc (by decide) (.slice A N c) N acc rfl hq1 (fun k h => h.elim) _ 1 1 [(inP1 p).1] rfl (fun _ => True) hq2 (fun _ _ h => h) (N + 1) _ rfl rfl hq5 hq4 hq3 ?_
             intro A9 c9 w9 hO9 hG9 hat9
             have hg9 := heap_grown hG9 hg8a (fun e => by have := (RK.Own.lt hO8 _ e.symm).1; omega)
             have d9 := blk_cell hg9 (i := 1) (v := .slice A N c) rfl
             have f9 := blk_frozen hg9 1
             have hs9 := Lib.hid hG9.size
             have HG9 := Lib.hid hG9
             have HX9 := Lib.hid hat9
             have hlo9 : Hid (∀ q, (Value.slice A N c).ownBlock = some q → base ≤ q) := Lib.hid fun q hq => (RK.Own.lt hO8 q hq).1
             clear hq1 hq2 hq3 hq4 hq5 hzi hzc hq6 hg8a d8 hg8 hx1 hO8 hG9 hat9
             refine wp_stopper ?_))
        refine Lib.hid ?_
        go_upto_region 16 with fail
        have hT9 := turned_setCell w9 g6 1 (.slice A9 (N + 1) c9)
        have hD6 : D ≠ g6 := by omega
        have hDb : D < base := by omega
        have hWa : Below W.heap.size W (W.alloc (.cells (inCells (inP1 p).1 (.slice none 0 0)).toArray 67)) := (Below.refl _ _).alloc (Nat.le_refl _) _
        have hSa := hS8.below hWa
        have hrs : r < W.heap.size := by omega
        have hnr : some r ≠ (Value.slice A N c).ownBlock := fun e => by have := hlo9.out r e.symm; omega
        have hnD : some D ≠ (Value.slice A N c).ownBlock := fun e => by have := hlo9.out D e.symm; omega
        have hS9 : RSt w9 r D (inP1 p).2 := hSa.keep (HG9.out.block r (by simp; omega) hnr) (HG9.out.block D (by simp; omega) hnD)
        have hS10 := hS9.keep (hT9.block r hr6) (hT9.block D hD6)
        have hO10 := RK.Own.grown_ hO9 hT9.grown (fun k e => by cases e; exact h6b)
        have hg10 := blk_set hg9 1 (.slice A9 (N + 1) c9)
        have hB8 := hB.grown hF8 hB.size (fun k e => by cases e; exact hwr)
        have hB9 := (below_then hB8 hB8.size hWa).grown HG9.out (below_then hB8 hB8.size hWa).size (fun k e => by have := hlo9.out k e; omega)
        have hB10 := hT9.below hB9 hw6
        have hs10 : base ≤ (w9.setCell ⟨g6, 1, none⟩ (.slice A9 (N + 1) c9)).heap.size := by have h1 := hs9.out; rw [hT9.size]; simp at h1; omega
        clear hS8 hbs8 hF8 hS9 hO9 hg9 hT9 hSa hWa hB8 hB9 HG9 HX9 hs9 hlo9 d9 f9 hnr hnD
        go_wp2
        go_roundw
        case rel => exact ⟨k + 1, (inP1 p).2, acc ++ [(inP1 p).1], A9, N + 1, c9, by omega, by go_num, by rw [hNK.out], HST, hS10, hO10, hg10, hB10, hs10⟩
        case measure => simp [intOf]; omega
      · have he1 : (p.e != 0) = true := by rw [bne_iff_ne]; exact he
        have hstop : insP n0 p0 = (acc, p) := by
          rw [HR.out, show n0 - k = (n0 - (k + 1)) + 1 by omega, insP, if_pos he, List.append_nil]
        go_upto_region 11 with fail
        exact HE.out _ _ _ _ _ _ _ _ _ _ _ _ _ _ _ _ _ _ _ _ _ _ _ _ _ _ _ _ _ _ _ _ _ A N c wr (by rw [hstop]; exact hS) (by rw [hstop]; exact hO) hg6 hB hbs
    · have hlt' : ¬ ((k : Int) < (n0 : Int)) := by omega
      have hend : insP n0 p0 = (acc, p) := by
        rw [HR.out, show n0 - k = 0 by omega, insP, List.append_nil]
      go_wp2
      exact HE.out _ _ _ _ _ _ _ _ _ _ _ _ _ _ _ _ _ _ _ _ _ _ _ _ _ _ _ _ _ _ _ _ _ A N c wr (by rw [hend]; exact hS) (by rw [hend]; exact hO) hg6 hB hbs
end Go.Proofs.YtclkgflficlmiaaDoor
