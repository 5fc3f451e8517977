/- The bytes of a transaction: what is of one input. -/
import Derived.Test.YtclkgflficlmiaaDoorTxt
import Derived.Deep.RegionHeld3
import Derived.Deep.CutBlock
set_option maxRecDepth 100000
set_option linter.unusedVariables false
namespace Go.Proofs.YtclkgflficlmiaaDoor
open Go Go.RowKit
theorem in_at {S : Nat → Prop} {w : World} {A : Option Addr} {n : Nat} {ins : List TIn} (h : inK.C S w A n ins) (k : Nat) (hk : k < n) :
    ∃ (b o : Nat) (x : TIn) (Aw : Option Addr) (nw cw : Nat), A = some ⟨b, o, none⟩ ∧ ins[k]? = some x ∧ w.rangeAt b (o + k * 36) (inCells x (.slice Aw nw cw)) ∧ x.Ok ∧ nw ≤ cw ∧ cw ≤ maxLen ∧ RK.str.C S w Aw nw x.wit := by
  obtain ⟨b, o, cs, x, hA, hx, ⟨Aw, nw, cw, rfl, hok, h1, h2, h3⟩, hc⟩ := h.get k hk
  exact ⟨b, o, x, Aw, nw, cw, hA, hx, hc, hok, h1, h2, h3⟩
theorem out_at {S : Nat → Prop} {w : World} {A : Option Addr} {n : Nat} {outs : List TOut} (h : outK.C S w A n outs) (k : Nat) (hk : k < n) :
    ∃ (b o : Nat) (x : TOut), A = some ⟨b, o, none⟩ ∧ outs[k]? = some x ∧ w.cell? ⟨b, o + k * 2, none⟩ = some (.int .i64 x.coins) ∧ w.cell? ⟨b, o + k * 2 + 1, none⟩ = some (.string x.script) ∧ x.Ok := by
  obtain ⟨b, o, cs, x, hA, hx, ⟨rfl, hok⟩, hc⟩ := h.get k hk
  exact ⟨b, o, x, hA, hx, hc 0 _ rfl, hc 1 _ rfl, hok⟩
theorem str_at {S : Nat → Prop} {w : World} {A : Option Addr} {n : Nat} {ss : List ByteArray} (h : RK.str.C S w A n ss) (k : Nat) (hk : k < n) :
    ∃ (b o : Nat) (x : ByteArray), A = some ⟨b, o, none⟩ ∧ ss[k]? = some x ∧ w.cell? ⟨b, o + k, none⟩ = some (.string x) ∧ x.size ≤ maxLen := by
  obtain ⟨b, o, cs, x, hA, hx, ⟨rfl, hok⟩, hc⟩ := h.get k hk
  have := hc 0 _ rfl
  rw [show o + k * RK.str.sz + 0 = o + k by show o + k * 1 + 0 = _; omega] at this
  exact ⟨b, o, x, hA, hx, this, hok⟩
theorem take_flat {α : Type} (f : α → List Int) (xs : List α) (k : Nat) (x : α) (h : xs[k]? = some x) : (xs.take (k + 1)).flatMap f = (xs.take k).flatMap f ++ f x := by
  rw [List.take_add_one, h]
  simp
theorem take_flat_le {α : Type} (f : α → List Int) : ∀ (xs : List α) (k : Nat), ((xs.take k).flatMap f).length ≤ (xs.flatMap f).length
  | [], k => by simp
  | x :: xs, 0 => by simp
  | x :: xs, k + 1 => by
    have := take_flat_le f xs k
    simp only [List.take_succ_cons, List.flatMap_cons, List.length_append]
    omega
theorem own_len {w : World} {base n : Nat} {e : TypeId} {v : Value} {xs : List Int} (h : w.ownsRow base e 1 v n (nums .u8 xs)) : xs.length = n := by
  have := h.1
  rwa [nums_length, Nat.mul_one] at this
theorem info_in (x : TIn) (h : x.id.length = 32) (v : Value) : (Tryd.prog.info? 67).map (·.size) = some (inCells x v).length := by rw [inCells_length h]; kernel_rfl
theorem info_inA (x : TIn) (h : x.id.length = 32) (v : Value) : (Tryd.prog.info? 67).map (·.size) = some (inCells x v).toArray.size := by rw [List.size_toArray]; exact info_in x h v
def in0 : TIn := ⟨List.replicate 32 0, 0, ⟨#[]⟩, 0, []⟩
theorem in0_len : in0.id.length = 32 := rfl
theorem in_sizes (x : TIn) (h : x.id.length = 32) (v : Value) : (inCells in0 (.slice none 0 0)).toArray.size = (inCells x v).toArray.size := by rw [List.size_toArray, List.size_toArray, inCells_length h, inCells_length in0_len]
theorem in_one (x : TIn) (v : Value) (hv : v.oneCell' = true) : (inCells x v).toArray.all (·.oneCell') = true := by
  rw [Array.all_eq_true']
  intro u hu
  have hu' : u ∈ inCells x v := by simpa using hu
  simp only [inCells, List.mem_append, List.mem_cons, List.not_mem_nil, or_false] at hu'
  rcases hu' with hu' | rfl | rfl | rfl | rfl
  · exact nums_one _ _ u hu'
  · rfl
  · rfl
  · rfl
  · exact hv
def findBk (n : Nat) : Code → Option Code
  | .block id c => if id = n then some (.block id c) else findBk n c
  | .loop c => findBk n c
  | .seq a b => match findBk n a with
    | some c => some c
    | none => findBk n b
  | .scope c => findBk n c
  | .cond _ a b => match findBk n a with
    | some c => some c
    | none => findBk n b
  | _ => none
noncomputable def layB0 : Code := ((Tryd.f56.body.bind (findBk 0)).getD .skip)
set_option maxHeartbeats 4000000 in
theorem lay_ins {u0 u1 u2 u3 u4 u6 u7 u8 u9 u10 u11 u12 u13 u14 u15 u16 u17 u18 u19 u20 u21 u22 u23 u24 u25 u26 u27 u28 u29 u33 u34 u35 u36 u37 u38 u39 u40 u41 u42 u43 u44 u45 u46 u47 u48 u49 u50 u51 u52 u53 u54 u55 u56 u57 u58 u59 u60 u61 u62 u63 u64 u65 u66 u67 u68 u69 u70 u71 u72 u73 u74 u75 u76 u77 u78 u79 u80 u81 u82 u83 u84 u85 u86 u87 u88 u89 u90 u91 u92 u93 u94 u95 u96 u97 u98 u99 u100 u101 u102 u103 u104 u105 u106 u107 : Value} (w0 wr0 : World) (S : Nat → Prop) (A0 : Option Addr) (L0 c0 : Nat) (q0 : List Int) (A1 : Option Addr) (n1 k1 : Nat) (ins : List TIn) (hn1 : n1 ≤ k1) (hk1 : k1 ≤ maxLen)
    (hI : inK.C S w0 A1 n1 ins) (hlen : (q0 ++ ins.flatMap layIn).length ≤ 10000000000) (hb0 : Below w0.heap.size w0 wr0) (ho0 : wr0.ownsRow w0.heap.size 5 1 (.slice A0 L0 c0) L0 (nums .u8 q0)) (Q0 : Exit → Act → World → Prop)
    (hexit : ∀ x7 x32 x33 x34 x35 x36 x37 x38 x39 x40 x41 x42 x43 x44 x45 x46 x47 x48 x49 x50 x51 x52 x53 x54 A' L' c' w', w'.ownsRow w0.heap.size 5 1 (.slice A' L' c') L' (nums .u8 (q0 ++ ins.flatMap layIn)) → Below w0.heap.size w0 w' → Q0 .normal ⟨#[u0, u1, u2, u3, u4, (.slice A' L' c'), u6, x7, u8, u9, u10, u11, u12, u13, u14, u15, u16, u17, u18, u19, u20, u21, u22, u23, u24, u25, u26, u27, u28, u29, .slice A1 n1 k1, .int .i64 n1, x32, x33, x34, x35, x36, x37, x38, x39, x40, x41, x42, x43, x44, x45, x46, x47, x48, x49, x50, x51, x52, x53, x54, u55, u56, u57, u58, u59, u60, u61, u62, u63, u64, u65, u66, u67, u68, u69, u70, u71, u72, u73, u74, u75, u76, u77, u78, u79, u80, u81, u82, u83, u84, u85, u86, u87, u88, u89, u90, u91, u92, u93, u94, u95, u96, u97, u98, u99, u100, u101, u102, u103, u104, u105, u106, u107], []⟩ w') :
    Code.wp Tryd.prog layB0 Q0 ⟨#[u0, u1, u2, u3, u4, .slice A0 L0 c0, u6, u7, u8, u9, u10, u11, u12, u13, u14, u15, u16, u17, u18, u19, u20, u21, u22, u23, u24, u25, u26, u27, u28, u29, .slice A1 n1 k1, .int .i64 n1, .int .i64 0, u33, u34, u35, u36, u37, u38, u39, u40, u41, u42, u43, u44, u45, u46, u47, u48, u49, u50, u51, u52, u53, u54, u55, u56, u57, u58, u59, u60, u61, u62, u63, u64, u65, u66, u67, u68, u69, u70, u71, u72, u73, u74, u75, u76, u77, u78, u79, u80, u81, u82, u83, u84, u85, u86, u87, u88, u89, u90, u91, u92, u93, u94, u95, u96, u97, u98, u99, u100, u101, u102, u103, u104, u105, u106, u107], []⟩ wr0 := by
  have HE := Lib.hid hexit
  clear hexit
  unfold maxLen at hk1
  have hln := hI.len
  have HLN := Lib.hid hln
  have HLEN := Lib.hid hlen
  have hU2 := Tryd.underlying67
  clear hln hlen
  have h0 : wr0.ownsRow w0.heap.size 5 1 (.slice A0 L0 c0) L0 (nums .u8 (q0 ++ (ins.take 0).flatMap layIn)) := by simpa using ho0
  clear ho0
  conv => arg 2; whnf
  go_wp2
  go_loopw [5, 32] (fun v5 v32 wr => ∃ (k : Nat) (A5 : Option Addr) (L c5 : Nat), k ≤ n1 ∧ v32 = .int .i64 k ∧ v5 = .slice A5 L c5 ∧ wr.ownsRow w0.heap.size 5 1 (.slice A5 L c5) L (nums .u8 (q0 ++ (ins.take k).flatMap layIn)) ∧ Below w0.heap.size w0 wr) (fun _ v _ => n1 - (intOf v).toNat)
  case atStart => exact ⟨0, A0, L0, c0, by omega, rfl, rfl, h0, hb0⟩
  case round =>
    clear h0 hb0
    obtain ⟨k, A5, L, c5, hk, rfl, rfl, hO, hB⟩ := hrel
    by_cases hlt : k < n1
    · have hlt' : (k : Int) < (n1 : Int) := by omega
      have hkk : (0 : Int) ≤ (k : Int) := by omega
      obtain ⟨b, o, x, Aw, nw, cw, hA1, hx, hrg, hok, hw1, hw2, hwc⟩ := in_at (RK.C.below hI hB) k hlt
      have hfl := take_flat layIn ins k x hx
      have hle := take_flat_le layIn ins (k + 1)
      obtain ⟨q, hq⟩ : ∃ q, q = q0 ++ (ins.take k).flatMap layIn := ⟨_, rfl⟩
      rw [← hq] at hO
      have hqL := own_len hO
      have hsc : x.script.size ≤ 10000000000 ∧ L + 40 + (textF x.script).length ≤ 10000000000 := by
        have h1 := HLEN.out
        rw [hfl] at hle
        simp only [List.length_append, layIn, leF_length, hok.idl] at hle h1
        rw [hq, List.length_append] at hqL
        have h2 := textF_length x.script
        omega
      have HN : Hid (q0 ++ (ins.take (k + 1)).flatMap layIn = q ++ x.id ++ leF 4 x.out.toNat ++ textF x.script ++ leF 4 x.seq.toNat) := Lib.hid (by rw [hfl, hq, layIn]; simp only [List.append_assoc])
      obtain ⟨hsc1, hsc2⟩ := hsc
      have hidl := hok.idl
      have i1 := info_in x hidl (.slice Aw nw cw)
      have HQ := Lib.hid hq
      have HX := Lib.hid hx
      have HQL := Lib.hid hqL
      have ho0 := hok.o0
      have ho1 := hok.o1
      have hs0 := hok.s0
      have hs1 := hok.s1
      have hwo : IntKind.u64.wrap x.out = x.out := by rw [IntKind.wrap_u64]; omega
      have hws : IntKind.u64.wrap x.seq = x.seq := by rw [IntKind.wrap_u64]; omega
      have hsr := hB.size
      subst hA1
      clear hq hx hqL hfl hle hwc
      go_upto_region 8 with (first | (refine wpList_load_mid rfl 67 (.tmp 34) rfl b (o + k * 36) rfl (inCells x (.slice Aw nw cw)) _ hrg hU2 rfl i1 ?_) | (refine wpList_store_any rfl 67 (.tmp 7) (.tmp 35) rfl wr.heap.size (inCells x (.slice Aw nw cw)).toArray rfl rfl 67 (inCells in0 (.slice none 0 0)).toArray (heap_alloc_new _ _) (info_inA x hidl _) (in_sizes x hidl _) (in_one x _ rfl) ?_; intro w2 g2 ht2))
      have hb2 : Below wr.heap.size wr w2 := ht2.below ((Below.refl wr.heap.size wr).alloc (Nat.le_refl _) _) (Nat.le_refl _)
      have hO2 := own_below hO hb2
      have hB2 := below_then hB hsr hb2
      have hgo : some wr.heap.size ≠ (Value.slice A5 L c5).ownBlock := fun e => by have := (hO.lt _ e.symm).2; omega
      have hlt2 := heap_lt g2
      have rid : Rd w2 (some ⟨wr.heap.size, 0, none⟩) 32 (nums .u8 x.id) := by
        have := Rd.of_block g2 32 (o := 0) (by rw [List.size_toArray, inCells_length hidl]; decide)
        rwa [List.toList_toArray, List.drop_zero, inCells_take hidl] at this
      have t1 : w2.cell? ⟨wr.heap.size, 32, none⟩ = some (.int .u32 x.out) := blk_cell g2 (by rw [List.getElem?_toArray]; exact inCells_at hidl _ 0)
      have t2 : w2.cell? ⟨wr.heap.size, 33, none⟩ = some (.string x.script) := blk_cell g2 (by rw [List.getElem?_toArray]; exact inCells_at hidl _ 1)
      have t3 : w2.cell? ⟨wr.heap.size, 34, none⟩ = some (.int .u32 x.seq) := blk_cell g2 (by rw [List.getElem?_toArray]; exact inCells_at hidl _ 2)
      have hlo : Hid (∀ q, (Value.slice A5 L c5).ownBlock = some q → w0.heap.size ≤ q) := Lib.hid fun q hq => own_base hO q hq
      have hs2 := hB2.size
      clear ht2 hb2 hO hB hrg g2
      refine wp_region_noPanic ?_
      refine wp_region_held_drew (S := fun w' => w'.cell? ⟨wr.heap.size, 32, none⟩ = some (.int .u32 x.out) ∧ w2.grownBy w' (Value.slice A5 L c5).ownBlock) (by kernel_rfl) ⟨t1, grown_of_below (Below.drew (Below.refl _ _)) _⟩ (fun hHeld => ?_)
      -- 0: tx.go:103 slot 36 := Op.move t5
      refine wpAnyH_take (i := 0) (oi := ⟨some 36, _, _, _, _, _⟩) (v := ?_) rfl (by kernel_rfl) (by kernel_rfl) (by kernel_rfl) (fun _ _ _ h => h) (Or.inl ⟨by rfl, ?_⟩) (by assumption) ?_
      rotate_left 1
      · intro w hSw; (try dsimp only at hSw); go_simp; try with_reducible rfl
      simp only [Act.put, List.setIfInBounds_toArray, List.set_cons_zero, List.set_cons_succ]
      -- 1: tx.go:103 slot 37 := Op.fieldAddr 80 t7 0
      refine wpAnyH_take (i := 1) (oi := ⟨some 37, _, _, _, _, _⟩) (v := ?_) rfl (by kernel_rfl) (by kernel_rfl) (by kernel_rfl) (fun _ _ _ h => h) (Or.inl ⟨by rfl, ?_⟩) (by assumption) ?_
      rotate_left 1
      · intro w hSw; (try dsimp only at hSw); go_simp; try with_reducible rfl
      simp only [Act.put, List.setIfInBounds_toArray, List.set_cons_zero, List.set_cons_succ]
      -- 2: tx.go:103 slot 38 := Op.fieldAddr 77 t37 0
      refine wpAnyH_take (i := 2) (oi := ⟨some 38, _, _, _, _, _⟩) (v := ?_) rfl (by kernel_rfl) (by kernel_rfl) (by kernel_rfl) (fun _ _ _ h => h) (Or.inl ⟨by rfl, ?_⟩) (by assumption) ?_
      rotate_left 1
      · intro w hSw; (try dsimp only at hSw); go_simp; try with_reducible rfl
      simp only [Act.put, List.setIfInBounds_toArray, List.set_cons_zero, List.set_cons_succ]
      -- 3: tx.go:103 slot 39 := Op.slice 25 t38 none none none
      refine wpAnyH_take (i := 3) (oi := ⟨some 39, _, _, _, _, _⟩) (v := ?_) rfl (by kernel_rfl) (by kernel_rfl) (by kernel_rfl) (fun _ _ _ h => h) (Or.inl ⟨by rfl, ?_⟩) (by assumption) ?_
      rotate_left 1
      · intro w hSw; (try dsimp only at hSw); go_simp; try with_reducible rfl
      simp only [Act.put, List.setIfInBounds_toArray, List.set_cons_zero, List.set_cons_succ]
      -- 5: tx.go:103 slot 41 := Op.fieldAddr 80 t7 0
      refine wpAnyH_take (i := 5) (oi := ⟨some 41, _, _, _, _, _⟩) (v := ?_) rfl (by kernel_rfl) (by kernel_rfl) (by kernel_rfl) (fun _ _ _ h => h) (Or.inl ⟨by rfl, ?_⟩) (by assumption) ?_
      rotate_left 1
      · intro w hSw; (try dsimp only at hSw); go_simp; try with_reducible rfl
      simp only [Act.put, List.setIfInBounds_toArray, List.set_cons_zero, List.set_cons_succ]
      -- 6: tx.go:103 slot 42 := Op.fieldAddr 77 t41 1
      refine wpAnyH_take (i := 6) (oi := ⟨some 42, _, _, _, _, _⟩) (v := ?_) rfl (by kernel_rfl) (by kernel_rfl) (by kernel_rfl) (fun _ _ _ h => h) (Or.inl ⟨by rfl, ?_⟩) (by assumption) ?_
      rotate_left 1
      · intro w hSw; (try dsimp only at hSw); go_simp; try with_reducible rfl
      simp only [Act.put, List.setIfInBounds_toArray, List.set_cons_zero, List.set_cons_succ]
      -- 7: tx.go:103 slot 43 := Op.load 27 t42
      refine wpAnyH_take (i := 7) (oi := ⟨some 43, _, _, _, _, _⟩) (v := ?_) rfl (by kernel_rfl) (by kernel_rfl) (by kernel_rfl) (fun _ _ _ h => h) (Or.inl ⟨by rfl, ?_⟩) (by assumption) ?_
      rotate_left 1
      · intro w hSw; (try dsimp only at hSw); go_simp; try with_reducible rfl
      simp only [Act.put, List.setIfInBounds_toArray, List.set_cons_zero, List.set_cons_succ]
      -- 8: tx.go:103 slot 44 := Op.convert 27 56 t43
      refine wpAnyH_take (i := 8) (oi := ⟨some 44, _, _, _, _, _⟩) (v := ?_) rfl (by kernel_rfl) (by kernel_rfl) (by kernel_rfl) (fun _ _ _ h => h) (Or.inl ⟨by rfl, ?_⟩) (by assumption) ?_
      rotate_left 1
      · intro w hSw; (try dsimp only at hSw); go_simp; try with_reducible rfl
      simp only [Act.put, List.setIfInBounds_toArray, List.set_cons_zero, List.set_cons_succ]
      -- 4: tx.go:103 slot 40 := Op.call { builtin append, args := #[t36, t39], argTypes := #[22, 22] }
      refine wpAnyH_ready (rs := [4]) (by kernel_rfl) (by simp) ?_
      refine AllReadyH.cons (o := ⟨some 40, _, _, _, _, _⟩) rfl (fun K hK => ?_) AllReadyH.nil
      refine step_appN (by rfl) (.tmp 36) (.tmp 39) 22 (by rfl) w0.heap.size 5 _ 1 Tryd.underlying22 infoU8 rfl (.slice A5 L c5) L (nums .u8 q) (by rfl) (own_drew1 hO2) (some ⟨wr.heap.size, 0, none⟩) 32 32 (nums .u8 x.id) (by rfl) (Rd.drew1 rid) (nums_one _ _) (L + 32) (nums .u8 (q ++ x.id)) rfl (nums_append _ _ _).symm (by unfold maxLen; omega) (by omega) (by simp; omega) ?_
      intro A3 c3 w3 ho3 hg3 hat3
      have hG := grown_trans hHeld.2 hg3
      have HX3 : Hid ((Value.slice A3 (L + 32) c3).ownBlock = (Value.slice A5 L c5).ownBlock ∨ ∃ g, (Value.slice A3 (L + 32) c3).ownBlock = some g ∧ w2.heap.size ≤ g) := Lib.hid (hat3.imp id fun h => ⟨_, h, by simp⟩)
      have hs3 := hG.size
      refine hK.out _ _ ⟨cell_grown hG t1 hgo, hG⟩ (fun hHeld' => ?_)
      clear hHeld
      have hHeld := hHeld'
      clear hHeld'
      clear hG hg3 hat3
      clear hK K
      try (simp only [Act.put, List.setIfInBounds_toArray, List.set_cons_zero, List.set_cons_succ])
      -- 9: tx.go:103 slot 45 := Op.call { value (Operand.func 67), args := #[t40, t44, const (4:i64)], argTypes := #[22, 56, 3] }
      refine wpAnyH_ready (rs := [9]) (by kernel_rfl) (by simp) ?_
      refine AllReadyH.cons (o := ⟨some 45, _, _, _, _, _⟩) rfl (fun K hK => ?_) AllReadyH.nil
      go_simp
      refine (put_calls _ w0.heap.size A3 (L + 32) c3 (q ++ x.id) x.out.toNat 4 (by omega) (by decide) (by omega) (by omega) ho3 _ rfl _ (by omega) (L + 32 + 4) (q ++ x.id ++ leF 4 x.out.toNat) rfl rfl).mono ?_
      rintro e w4 ⟨A4, c4, rfl, ho4, hg4, hx4⟩
      try go_wp2_with fail
      have hxx := own_chain HX3.out hs3 hx4
      have HX4 := Lib.hid hxx
      have hG := grown_chain hHeld.2 HX3.out hg4
      refine hK.out _ _ ⟨cell_grown hG t1 hgo, hG⟩ (fun hHeld' => ?_)
      clear hHeld
      have hHeld := hHeld'
      clear hHeld'
      clear hG hg4 hx4 hxx ho3
      clear hK K
      try (simp only [Act.put, List.setIfInBounds_toArray, List.set_cons_zero, List.set_cons_succ])
      -- 10: tx.go:103 slot 5 := Op.assign t45
      refine wpAnyH_take (i := 10) (oi := ⟨some 5, _, _, _, _, _⟩) (v := ?_) rfl (by kernel_rfl) (by kernel_rfl) (by kernel_rfl) (fun _ _ _ h => h) (Or.inl ⟨by rfl, ?_⟩) (by assumption) ?_
      rotate_left 1
      · intro w hSw; (try dsimp only at hSw); go_simp; try with_reducible rfl
      simp only [Act.put, List.setIfInBounds_toArray, List.set_cons_zero, List.set_cons_succ]
      refine wpAnyH_done (by kernel_rfl) ?_ _
      refine NoPanic.normal ?_
      have hG3 := hHeld.2
      have t23 := cell_grown hG3 t2 hgo
      have t33 := cell_grown hG3 t3 hgo
      have hgo3 : some wr.heap.size ≠ (Value.slice A4 (L + 32 + 4) c4).ownBlock := fun e => by
        rcases HX4.out with h | ⟨g, h, h2⟩
        · exact hgo (e.trans h)
        · rw [h] at e; injection e with e; omega
      have hB3 : Below w0.heap.size w0 w4 := hB2.grown hG3 hs2 (fun q hq => hlo.out q hq)
      have hlo3 : Hid (∀ q, (Value.slice A4 (L + 32 + 4) c4).ownBlock = some q → w0.heap.size ≤ q) := Lib.hid fun q hq => own_base ho4 q hq
      have hs4 := hB3.size
      clear hHeld hG3 t1 t2 t3 hB2 rid hgo HX4
      go_upto_region 9 with fail
      refine wp_region_noPanic ?_
      refine wp_region_held_drew (S := fun w' => w'.cell? ⟨wr.heap.size, 33, none⟩ = some (.string x.script) ∧ w'.cell? ⟨wr.heap.size, 34, none⟩ = some (.int .u32 x.seq) ∧ w4.grownBy w' (Value.slice A4 (L + 32 + 4) c4).ownBlock) (by kernel_rfl) ⟨t23, t33, grown_of_below (Below.drew (Below.refl _ _)) _⟩ (fun hHeld => ?_)
      -- 0: tx.go:104 slot 46 := Op.move t5
      refine wpAnyH_take (i := 0) (oi := ⟨some 46, _, _, _, _, _⟩) (v := ?_) rfl (by kernel_rfl) (by kernel_rfl) (by kernel_rfl) (fun _ _ _ h => h) (Or.inl ⟨by rfl, ?_⟩) (by assumption) ?_
      rotate_left 1
      · intro w hSw; (try dsimp only at hSw); go_simp; try with_reducible rfl
      simp only [Act.put, List.setIfInBounds_toArray, List.set_cons_zero, List.set_cons_succ]
      -- 1: tx.go:104 slot 47 := Op.fieldAddr 80 t7 1
      refine wpAnyH_take (i := 1) (oi := ⟨some 47, _, _, _, _, _⟩) (v := ?_) rfl (by kernel_rfl) (by kernel_rfl) (by kernel_rfl) (fun _ _ _ h => h) (Or.inl ⟨by rfl, ?_⟩) (by assumption) ?_
      rotate_left 1
      · intro w hSw; (try dsimp only at hSw); go_simp; try with_reducible rfl
      simp only [Act.put, List.setIfInBounds_toArray, List.set_cons_zero, List.set_cons_succ]
      -- 2: tx.go:104 slot 48 := Op.load 9 t47
      refine wpAnyH_take (i := 2) (oi := ⟨some 48, _, _, _, _, _⟩) (v := ?_) rfl (by kernel_rfl) (by kernel_rfl) (by kernel_rfl) (fun _ _ _ h => h) (Or.inl ⟨by rfl, ?_⟩) (by assumption) ?_
      rotate_left 1
      · intro w hSw; (try dsimp only at hSw); go_simp; try with_reducible rfl
      simp only [Act.put, List.setIfInBounds_toArray, List.set_cons_zero, List.set_cons_succ]
      -- 4: tx.go:104 slot 50 := Op.fieldAddr 80 t7 2
      refine wpAnyH_take (i := 4) (oi := ⟨some 50, _, _, _, _, _⟩) (v := ?_) rfl (by kernel_rfl) (by kernel_rfl) (by kernel_rfl) (fun _ _ _ h => h) (Or.inl ⟨by rfl, ?_⟩) (by assumption) ?_
      rotate_left 1
      · intro w hSw; (try dsimp only at hSw); go_simp; try with_reducible rfl
      simp only [Act.put, List.setIfInBounds_toArray, List.set_cons_zero, List.set_cons_succ]
      -- 5: tx.go:104 slot 51 := Op.load 27 t50
      refine wpAnyH_take (i := 5) (oi := ⟨some 51, _, _, _, _, _⟩) (v := ?_) rfl (by kernel_rfl) (by kernel_rfl) (by kernel_rfl) (fun _ _ _ h => h) (Or.inl ⟨by rfl, ?_⟩) (by assumption) ?_
      rotate_left 1
      · intro w hSw; (try dsimp only at hSw); go_simp; try with_reducible rfl
      simp only [Act.put, List.setIfInBounds_toArray, List.set_cons_zero, List.set_cons_succ]
      -- 6: tx.go:104 slot 52 := Op.convert 27 56 t51
      refine wpAnyH_take (i := 6) (oi := ⟨some 52, _, _, _, _, _⟩) (v := ?_) rfl (by kernel_rfl) (by kernel_rfl) (by kernel_rfl) (fun _ _ _ h => h) (Or.inl ⟨by rfl, ?_⟩) (by assumption) ?_
      rotate_left 1
      · intro w hSw; (try dsimp only at hSw); go_simp; try with_reducible rfl
      simp only [Act.put, List.setIfInBounds_toArray, List.set_cons_zero, List.set_cons_succ]
      -- 3: tx.go:104 slot 49 := Op.call { value (Operand.func 89), args := #[t46, t48], argTypes := #[22, 9] }
      refine wpAnyH_ready (rs := [3]) (by kernel_rfl) (by simp) ?_
      refine AllReadyH.cons (o := ⟨some 49, _, _, _, _, _⟩) rfl (fun K hK => ?_) AllReadyH.nil
      go_simp
      refine (text_calls _ w0.heap.size A4 (L + 32 + 4) c4 (q ++ x.id ++ leF 4 x.out.toNat) x.script hsc1 (by omega) (by simp; omega) (own_drew1 ho4) (L + 32 + 4 + (textF x.script).length) (q ++ x.id ++ leF 4 x.out.toNat ++ textF x.script) rfl rfl).mono ?_
      rintro e w5 ⟨A7, c7, rfl, ho7, hg7, hx7⟩
      try go_wp2_with fail
      have HX7 : Hid ((Value.slice A7 (L + 32 + 4 + (textF x.script).length) c7).ownBlock = (Value.slice A4 (L + 32 + 4) c4).ownBlock ∨ ∃ g, (Value.slice A7 (L + 32 + 4 + (textF x.script).length) c7).ownBlock = some g ∧ w4.heap.size ≤ g) := Lib.hid (hx7.imp id fun ⟨g, h, h2⟩ => ⟨g, h, h2⟩)
      have hG := grown_trans hHeld.2.2 hg7
      have hs5 := hG.size
      refine hK.out _ _ ⟨cell_grown hG t23 hgo3, cell_grown hG t33 hgo3, hG⟩ (fun hHeld' => ?_)
      clear hHeld
      have hHeld := hHeld'
      clear hHeld'
      clear hG hg7 hx7
      clear hK K
      try (simp only [Act.put, List.setIfInBounds_toArray, List.set_cons_zero, List.set_cons_succ])
      -- 7: tx.go:104 slot 53 := Op.call { value (Operand.func 67), args := #[t49, t52, const (4:i64)], argTypes := #[22, 56, 3] }
      refine wpAnyH_ready (rs := [7]) (by kernel_rfl) (by simp) ?_
      refine AllReadyH.cons (o := ⟨some 53, _, _, _, _, _⟩) rfl (fun K hK => ?_) AllReadyH.nil
      go_simp
      refine (put_calls _ w0.heap.size A7 (L + 32 + 4 + (textF x.script).length) c7 (q ++ x.id ++ leF 4 x.out.toNat ++ textF x.script) x.seq.toNat 4 (by omega) (by decide) (by omega) (by omega) ho7 _ rfl _ (by omega) (L + 32 + 4 + (textF x.script).length + 4) (q ++ x.id ++ leF 4 x.out.toNat ++ textF x.script ++ leF 4 x.seq.toNat) rfl rfl).mono ?_
      rintro e w6 ⟨A6, c6, rfl, ho6, hg6, hx6⟩
      try go_wp2_with fail
      have hG := grown_chain hHeld.2.2 HX7.out hg6
      refine hK.out _ _ ⟨cell_grown hG t23 hgo3, cell_grown hG t33 hgo3, hG⟩ (fun hHeld' => ?_)
      clear hHeld
      have hHeld := hHeld'
      clear hHeld'
      clear hG hg6 hx6 ho7
      clear hK K
      try (simp only [Act.put, List.setIfInBounds_toArray, List.set_cons_zero, List.set_cons_succ])
      -- 8: tx.go:104 slot 5 := Op.assign t53
      refine wpAnyH_take (i := 8) (oi := ⟨some 5, _, _, _, _, _⟩) (v := ?_) rfl (by kernel_rfl) (by kernel_rfl) (by kernel_rfl) (fun _ _ _ h => h) (Or.inl ⟨by rfl, ?_⟩) (by assumption) ?_
      rotate_left 1
      · intro w hSw; (try dsimp only at hSw); go_simp; try with_reducible rfl
      simp only [Act.put, List.setIfInBounds_toArray, List.set_cons_zero, List.set_cons_succ]
      refine wpAnyH_done (by kernel_rfl) ?_ _
      refine NoPanic.normal ?_
      have hB6 : Below w0.heap.size w0 w6 := hB3.grown hHeld.2.2 hs4 (fun q hq => hlo3.out q hq)
      rw [← HN.out] at ho6
      clear hHeld t23 t33 hB3 hwo hws
      go_wp2
      go_roundw
      case rel => exact ⟨k + 1, A6, _, c6, by omega, by go_num, rfl, ho6, hB6⟩
      case measure => simp [intOf]; omega
    · have hlt' : ¬ (k : Int) < (n1 : Int) := by omega
      obtain rfl : k = n1 := by omega
      rw [List.take_of_length_le (by rw [HLN.out]; exact Nat.le_refl _)] at hO
      go_wp2
      exact HE.out _ _ _ _ _ _ _ _ _ _ _ _ _ _ _ _ _ _ _ _ _ _ _ _ A5 L c5 wr hO hB
end Go.Proofs.YtclkgflficlmiaaDoor
