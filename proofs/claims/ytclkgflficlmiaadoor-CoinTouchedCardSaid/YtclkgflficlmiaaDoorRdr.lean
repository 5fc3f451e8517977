/- The reader of tx.Decode: what it holds, and what each step takes. -/
import Derived.Test.YtclkgflficlmiaaDoorExpand
import Derived.Test.YtclkgflficlmiaaDoorBase
set_option maxRecDepth 100000
set_option linter.unusedVariables false
namespace Go.Proofs.YtclkgflficlmiaaDoor
open Go Go.RowKit
/-- The reader lies in block r; what it reads in block D. -/
def RSt (w : World) (r D : Nat) (p : PSt) : Prop := ∃ A n c, w.heap[r]? = some (.cells #[.slice A n c, .int .i64 p.e] 125) ∧ n ≤ c ∧ c ≤ maxLen ∧ Rd w A n (nums .u8 p.bs) ∧ Bytes p.bs ∧ (∀ ad, A = some ad → ∃ o, ad = ⟨D, o, none⟩) ∧ D ≠ r
theorem RSt.below {w w' : World} {r D : Nat} {p : PSt} (h : RSt w r D p) (hb : Below w.heap.size w w') : RSt w' r D p := by
  obtain ⟨A, n, c, hg, h1, h2, h3, h4, h5, h6⟩ := h
  exact ⟨A, n, c, heap_below hb hg, h1, h2, h3.below hb, h4, h5, h6⟩
theorem Rd.keepD {w w' : World} {A : Option Addr} {n D : Nat} {xs : List Value} (h : Rd w A n xs) (hA : ∀ ad, A = some ad → ∃ o, ad = ⟨D, o, none⟩) (hb : w'.heap[D]? = w.heap[D]?) : Rd w' A n xs := by
  refine ⟨h.1, fun hn => ?_⟩
  obtain ⟨b, o, e, hc⟩ := h.2 hn
  obtain ⟨o', e'⟩ := hA _ e
  injection e' with e1 e2
  subst e1
  exact ⟨b, o, e, fun j u hu => (cell_move hb).trans (hc j u hu)⟩
theorem RSt.keep {w w' : World} {r D : Nat} {p : PSt} (h : RSt w r D p) (hr : w'.heap[r]? = w.heap[r]?) (hd : w'.heap[D]? = w.heap[D]?) : RSt w' r D p := by
  obtain ⟨A, n, c, hg, h1, h2, h3, h4, h5, h6⟩ := h
  exact ⟨A, n, c, hr.trans hg, h1, h2, h3.keepD h5 hd, h4, h5, h6⟩
theorem RSt.bytes {w : World} {r D : Nat} {p : PSt} (h : RSt w r D p) : Bytes p.bs := by
  obtain ⟨A, n, c, hg, h1, h2, h3, h4, h5, h6⟩ := h
  exact h4
theorem RSt.len {w : World} {r D : Nat} {p : PSt} (h : RSt w r D p) : p.bs.length ≤ maxLen := by
  obtain ⟨A, n, c, hg, h1, h2, h3, h4, h5, h6⟩ := h
  have := h3.1
  rw [nums_length] at this
  omega
def cutA (A : Option Addr) (c m : Nat) : Option Addr := if c = m then A else A.map (·.add m)
theorem cutA_D {A : Option Addr} {c m D : Nat} (hA : ∀ ad, A = some ad → ∃ o, ad = ⟨D, o, none⟩) : ∀ ad, cutA A c m = some ad → ∃ o, ad = ⟨D, o, none⟩ := by
  intro ad h
  unfold cutA at h
  split at h
  · exact hA ad h
  · rcases A with _ | a
    · cases h
    · obtain ⟨o, rfl⟩ := hA a rfl
      simp only [Option.map_some, Option.some.injEq, add_plain'] at h
      exact ⟨_, h.symm⟩
theorem cut_tail (A : Option Addr) (n c m : Nat) (hm : m ≤ n) (W : World) : (Instr.slice 22 (.slice A n c) (some (.int .i64 (m : Int))) none none).run Tryd.prog W = .ok (.slice (cutA A c m) (n - m) (c - m)) W := by
  obtain ⟨i, hi, hs⟩ := info_u8'
  have hel : Tryd.prog.elem 22 = 5 := by simp [Program.elem, Tryd.underlying22]
  have hu : Tryd.prog.underlying 22 = some (.slice (Tryd.prog.elem 22)) := by rw [hel]; exact Tryd.underlying22
  rw [run_slice_l W 22 A n c hu .i64 (m : Int) (Int.natCast_nonneg _) (by omega), hel]
  simp [sizeOf, typeInfo, hi, hs, sliced, Result.andThen, cutA]
theorem add_zero_addr (a : Addr) : a.add 0 = a := by unfold Addr.add; split <;> simp_all
theorem cut_head (A : Option Addr) (n c m : Nat) (hm : m ≤ c) (W : World) : (Instr.slice 22 (.slice A n c) none (some (.int .i64 (m : Int))) none).run Tryd.prog W = .ok (.slice A m c) W := by
  obtain ⟨i, hi, hs⟩ := info_u8'
  have hel : Tryd.prog.elem 22 = 5 := by simp [Program.elem, Tryd.underlying22]
  have hu : Tryd.prog.underlying 22 = some (.slice (Tryd.prog.elem 22)) := by rw [hel]; exact Tryd.underlying22
  rw [run_slice_h W 22 A n c hu .i64 (m : Int) (Int.natCast_nonneg _) (by omega), hel]
  rcases A with _ | a <;> simp [sizeOf, typeInfo, hi, hs, sliced, Result.andThen, add_zero_addr]
/-- What was taken. -/
def TakePost (w : World) (r D : Nat) (p : PSt) (n : Nat) (e : Ending) (w' : World) : Prop :=
  ∃ A m c, e = .returned (.slice A m c) ∧ m ≤ c ∧ Rd w' A m (nums .u8 (p.takeB n)) ∧ (∀ ad, A = some ad → ∃ o, ad = ⟨D, o, none⟩) ∧ RSt w' r D (p.take n) ∧ w.grownBy w' (some r)
set_option maxHeartbeats 1000000 in
theorem fail_calls (w : World) (r D : Nat) (p : PSt) (e1 : Int) (hS : RSt w r D p) (he : p.e = 0) :
    Calls Tryd.prog 79 #[.pointer (some ⟨r, 0, none⟩), .int .i64 e1] w fun e w' => e = .returned (.tuple #[]) ∧ RSt w' r D ⟨p.bs, e1⟩ ∧ Turned w r w' := by
  obtain ⟨A, n, c, hg, h1, h2, h3, h4, h5, h6⟩ := hS
  rw [he] at hg
  have c1 : w.cell? ⟨r, 1, none⟩ = some (.int .i64 0) := blk_cell hg rfl
  have f1 := blk_frozen hg 1
  have ht := turned_setCell w r 1 (.int .i64 e1)
  have hb := blk_set hg 1 (.int .i64 e1)
  have hS' : RSt (w.setCell ⟨r, 1, none⟩ (.int .i64 e1)) r D ⟨p.bs, e1⟩ := ⟨A, n, c, hb, h1, h2, h3.keepD h5 (ht.block D h6), h4, h5, h6⟩
  clear hg hb
  go_enter Tryd.func79, Tryd.ntmps79
  go_wp2
  go_end0
  exact ⟨rfl, hS', ht⟩
set_option maxHeartbeats 1000000 in
theorem take_calls (w : World) (r D : Nat) (p : PSt) (n : Nat) (hn : n ≤ 1000000) (hS : RSt w r D p) (nz : Int) (hnz : nz = (n : Int)) :
    Calls Tryd.prog 60 #[.pointer (some ⟨r, 0, none⟩), .int .i64 nz] w (TakePost w r D p n) := by
  subst hnz
  obtain ⟨A, N, c, hg, h1, h2, h3, h4, h5, h6⟩ := hS
  have hl : p.bs.length = N := by have := h3.1; rwa [nums_length] at this
  have h2' := h2
  unfold maxLen at h2'
  have hNI : (N : Int) ≤ 9223372036854775807 := by omega
  have c0 : w.cell? ⟨r, 0, none⟩ = some (.slice A N c) := blk_cell hg rfl
  have c1 : w.cell? ⟨r, 1, none⟩ = some (.int .i64 p.e) := blk_cell hg rfl
  by_cases he : p.e = 0
  · by_cases hle : n ≤ N
    · have hle' : ¬ (N : Int) < (n : Int) := by omega
      have f0 := blk_frozen hg 0
      rw [he] at c1 hg
      have k1 := fun W => cut_head A N c n (by omega) W
      have k2 := fun W => cut_tail A N c n hle W
      have ht := turned_setCell w r 0 (.slice (cutA A c n) (N - n) (c - n))
      have hb := blk_set hg 0 (.slice (cutA A c n) (N - n) (c - n))
      have hB : p.takeB n = p.bs.take n := by unfold PSt.takeB; rw [if_pos ⟨he, by omega⟩]
      have hT : p.take n = ⟨p.bs.drop n, 0⟩ := by unfold PSt.take; rw [if_pos he, if_pos (by omega)]
      have hd : Rd w (cutA A c n) (N - n) (nums .u8 (p.bs.drop n)) := by
        have := h3.drop_ n hle h1
        rwa [nums_drop] at this
      have hP : TakePost w r D p n (.returned (.slice A n c)) (w.setCell ⟨r, 0, none⟩ (.slice (cutA A c n) (N - n) (c - n))) := by
        refine ⟨A, n, c, rfl, by omega, ?_, h5, ?_, ht.grown⟩
        · rw [hB]
          have := (h3.take_ n hle).keepD h5 (ht.block D h6)
          rwa [nums_take] at this
        · rw [hT]
          exact ⟨cutA A c n, N - n, c - n, hb, by omega, by omega, hd.keepD (cutA_D h5) (ht.block D h6), h4.drop n, cutA_D h5, h6⟩
      have HP := Lib.hid hP
      clear hP hB hT hd hb ht hg hl he h3
      go_enter Tryd.func60, Tryd.ntmps60
      go_wp2
      go_ret
      exact HP.out
    · have hle' : (N : Int) < (n : Int) := by omega
      have hB : p.takeB n = [] := by unfold PSt.takeB; rw [if_neg (fun h => by omega)]
      have hT : p.take n = ⟨p.bs, 8⟩ := by unfold PSt.take; rw [if_pos he, if_neg (by omega)]
      have hS : RSt w r D p := ⟨A, N, c, hg, h1, h2, h3, h4, h5, h6⟩
      have HB := Lib.hid hB
      have HT := Lib.hid hT
      have HE := Lib.hid he
      rw [he] at c1
      clear hB hT hg hl he h3
      go_enter Tryd.func60, Tryd.ntmps60
      go_wp2_with fail
      refine (fail_calls w r D p 8 hS HE.out).mono ?_
      rintro e w1 ⟨rfl, hS1, ht⟩
      obtain ⟨A', n', c', hg', h1', h2', h3', h4', h5', h6'⟩ := hS1
      have c1' : w1.cell? ⟨r, 1, none⟩ = some (.int .i64 8) := blk_cell hg' rfl
      have hP : TakePost w r D p n (.returned (.slice none 0 0)) w1 := by
        refine ⟨none, 0, 0, rfl, Nat.le_refl _, ?_, (fun ad h => by cases h), ?_, ht.grown⟩
        · rw [HB.out]; exact Rd.nil _ _
        · rw [HT.out]; exact ⟨A', n', c', hg', h1', h2', h3', h4', h5', h6'⟩
      have HP := Lib.hid hP
      clear hP hg' h3' ht c0 c1 hS
      go_wp2
      go_ret
      exact HP.out
  · have he1 : (p.e == 0) = false := by rw [beq_eq_false_iff_ne]; exact he
    have he2 : (p.e != 0) = true := by rw [bne_iff_ne]; exact he
    have hP : TakePost w r D p n (.returned (.slice none 0 0)) w := by
      refine ⟨none, 0, 0, rfl, Nat.le_refl _, ?_, (fun ad h => by cases h), ?_, World.grownBy.refl _ _⟩
      · unfold PSt.takeB
        rw [if_neg (fun h => he h.1)]
        exact Rd.nil _ _
      · unfold PSt.take
        rw [if_neg he]
        exact ⟨A, N, c, hg, h1, h2, h3, h4, h5, h6⟩
    have HP := Lib.hid hP
    clear hP hg he
    go_enter Tryd.func60, Tryd.ntmps60
    go_wp2
    go_ret
    exact HP.out
set_option maxHeartbeats 1000000 in
theorem rlit_calls (w : World) (r D : Nat) (p : PSt) (n : Nat) (hn : n ≤ 8) (hS : RSt w r D p) (nz : Int) (hnz : nz = (n : Int)) :
    Calls Tryd.prog 59 #[.pointer (some ⟨r, 0, none⟩), .int .i64 nz] w fun e w' => e = .returned (.int .u64 (ofLE (p.takeB n))) ∧ RSt w' r D (p.take n) ∧ w.grownBy w' (some r) := by
  subst hnz
  have hby := PSt.takeB_bytes hS.bytes n
  go_enter Tryd.func59, Tryd.ntmps59
  go_wp2_with fail
  refine (take_calls w r D p n (by omega) hS _ rfl).mono ?_
  rintro e w1 ⟨A1, m1, c1, rfl, hm, hr1, hA1, hS1, hg1⟩
  have hml : m1 ≤ 8 := by have h1 := hr1.1; rw [nums_length] at h1; have := PSt.takeB_len p n; omega
  go_wp2_with fail
  refine (lit_calls w1 A1 m1 c1 _ hml hr1 hby).mono ?_
  rintro e w' ⟨rfl, rfl⟩
  go_wp2
  go_ret
  exact ⟨rfl, hS1, hg1⟩
set_option maxHeartbeats 2000000 in
theorem count_calls (w : World) (r D : Nat) (p : PSt) (most : Nat) (hm : most ≤ 1000000) (hS : RSt w r D p) (nz : Int) (hnz : nz = (most : Int)) :
    Calls Tryd.prog 61 #[.pointer (some ⟨r, 0, none⟩), .int .i64 nz] w fun e w' => e = .returned (.int .i64 (p.countV most : Int)) ∧ RSt w' r D (p.count most) ∧ w.grownBy w' (some r) := by
  subst hnz
  have hS0 := hS
  obtain ⟨A, N, c, hg, h1, h2, h3, h4, h5, h6⟩ := hS
  have hl : p.bs.length = N := by have := h3.1; rwa [nums_length] at this
  have c0 : w.cell? ⟨r, 0, none⟩ = some (.slice A N c) := blk_cell hg rfl
  have c1 : w.cell? ⟨r, 1, none⟩ = some (.int .i64 p.e) := blk_cell hg rfl
  by_cases he : p.e = 0
  · rw [he] at c1
    have hrng := expF_range h4
    obtain ⟨x, k, e, hx⟩ : ∃ x k e, expF p.bs = (x, k, e) := ⟨_, _, _, rfl⟩
    rw [hx] at hrng
    have hx0 : 0 ≤ x := hrng.1
    have HXR : Hid (x < 18446744073709551616) := Lib.hid hrng.2
    have HX := Lib.hid hx
    have HL := Lib.hid hl
    have HE := Lib.hid he
    clear hrng hx hl he
    go_enter Tryd.func61, Tryd.ntmps61
    go_wp2_with fail
    refine (exp_calls w A N c p.bs h1 h2 h3 h4).mono ?_
    rintro e0 w1 ⟨he0, hb1⟩
    rw [HX.out] at he0
    obtain rfl := he0
    have hS1 := hS0.below hb1
    have hg1 := heap_below hb1 hg
    rw [HE.out] at hg1
    have c01 : w1.cell? ⟨r, 0, none⟩ = some (.slice A N c) := blk_cell hg1 rfl
    have hgr : w.grownBy w1 (some r) := grown_of_below hb1 _
    by_cases hee : e = 0
    · subst hee
      have hkc := expF_cut HX.out
      have hkN : k ≤ N := by have := HL.out; omega
      by_cases hbig : (most : Int) < x
      · have hV : p.countV most = 0 := by unfold PSt.countV; rw [if_neg (by rw [HE.out]; decide), HX.out, if_neg (by simp), if_pos hbig]
        have hC : p.count most = ⟨p.bs, 2⟩ := by unfold PSt.count; rw [if_neg (by rw [HE.out]; decide), HX.out, if_neg (by simp), if_pos hbig]
        have HV := Lib.hid hV
        have HC := Lib.hid hC
        clear hV hC hkc hg hg1 h3
        go_wp2_with fail
        refine (fail_calls w1 r D p 2 hS1 HE.out).mono ?_
        rintro e w2 ⟨rfl, hS2, ht⟩
        have hG : w.grownBy w2 (some r) := grown_trans hgr ht.grown
        go_wp2
        go_ret
        rw [HV.out, HC.out]
        exact ⟨rfl, hS2, hG⟩
      · have hle : x ≤ (most : Int) := by omega
        have hV : p.countV most = x.toNat := by unfold PSt.countV; rw [if_neg (by rw [HE.out]; decide), HX.out, if_neg (by simp), if_neg hbig]
        have hC : p.count most = ⟨p.bs.drop k, 0⟩ := by unfold PSt.count; rw [if_neg (by rw [HE.out]; decide), HX.out, if_neg (by simp), if_neg hbig]
        have f0 := blk_frozen hg1 0
        have k2 := fun W => cut_tail A N c k hkN W
        have ht := turned_setCell w1 r 0 (.slice (cutA A c k) (N - k) (c - k))
        have hb := blk_set hg1 0 (.slice (cutA A c k) (N - k) (c - k))
        have hd : Rd w1 (cutA A c k) (N - k) (nums .u8 (p.bs.drop k)) := by
          have := (h3.below hb1).drop_ k hkN h1
          rwa [nums_drop] at this
        have hS2 : RSt (w1.setCell ⟨r, 0, none⟩ (.slice (cutA A c k) (N - k) (c - k))) r D ⟨p.bs.drop k, 0⟩ := ⟨cutA A c k, N - k, c - k, hb, by omega, by omega, hd.keepD (cutA_D h5) (ht.block D h6), h4.drop k, cutA_D h5, h6⟩
        have hG : w.grownBy (w1.setCell ⟨r, 0, none⟩ (.slice (cutA A c k) (N - k) (c - k))) (some r) := grown_trans hgr ht.grown
        have hxt : ((x.toNat : Nat) : Int) = x := by omega
        have HV := Lib.hid hV
        have HC := Lib.hid hC
        have HXT := Lib.hid hxt
        clear hV hC hkc hg hg1 h3 hxt hb hd ht
        go_wp2
        go_ret
        rw [HV.out, HC.out, HXT.out]
        exact ⟨rfl, hS2, hG⟩
    · have he2 : (e != 0) = true := by rw [bne_iff_ne]; exact hee
      have hV : p.countV most = 0 := by unfold PSt.countV; rw [if_neg (by rw [HE.out]; decide), HX.out, if_pos hee]
      have hC : p.count most = ⟨p.bs, e⟩ := by unfold PSt.count; rw [if_neg (by rw [HE.out]; decide), HX.out, if_pos hee]
      have HV := Lib.hid hV
      have HC := Lib.hid hC
      clear hV hC hg hg1 h3 hee
      go_wp2_with fail
      refine (fail_calls w1 r D p e hS1 HE.out).mono ?_
      rintro e w2 ⟨rfl, hS2, ht⟩
      have hG : w.grownBy w2 (some r) := grown_trans hgr ht.grown
      go_wp2
      go_ret
      rw [HV.out, HC.out]
      exact ⟨rfl, hS2, hG⟩
  · have he2 : (p.e != 0) = true := by rw [bne_iff_ne]; exact he
    have hV : p.countV most = 0 := by unfold PSt.countV; rw [if_pos he]
    have hC : p.count most = p := by unfold PSt.count; rw [if_pos he]
    have HV := Lib.hid hV
    have HC := Lib.hid hC
    clear hV hC he hg hl
    go_enter Tryd.func61, Tryd.ntmps61
    go_wp2
    go_ret
    rw [HV.out, HC.out]
    exact ⟨rfl, hS0, World.grownBy.refl _ _⟩
set_option maxHeartbeats 1000000 in
theorem rtext_calls (w : World) (r D : Nat) (p : PSt) (hS : RSt w r D p) :
    Calls Tryd.prog 62 #[.pointer (some ⟨r, 0, none⟩)] w fun e w' => e = .returned (.string (strOfNums p.textB)) ∧ RSt w' r D p.text ∧ w.grownBy w' (some r) := by
  have hcv : p.countV 10000 ≤ 10000 := by
    unfold PSt.countV
    split
    · omega
    · split
      · omega
      · split <;> omega
  go_enter Tryd.func62, Tryd.ntmps62
  go_wp2_with fail
  refine (count_calls w r D p 10000 (by decide) hS _ rfl).mono ?_
  rintro e w1 ⟨rfl, hS1, hg1⟩
  go_wp2_with fail
  refine (take_calls w1 r D _ (p.countV 10000) (by omega) hS1 _ rfl).mono ?_
  rintro e w2 ⟨A2, m2, c2, rfl, hm2, hr2, hA2, hS2, hg2⟩
  have kc := conv_rd (P := Tryd.prog) (src := 22) (dst := 9) (c := c2) Tryd.underlying22 Tryd.underlying5 Tryd.underlying9 hr2
  have hG := grown_trans hg1 hg2
  clear hg1 hg2 hr2
  go_wp2
  go_ret
  exact ⟨rfl, hS2, hG⟩
end Go.Proofs.YtclkgflficlmiaaDoor
