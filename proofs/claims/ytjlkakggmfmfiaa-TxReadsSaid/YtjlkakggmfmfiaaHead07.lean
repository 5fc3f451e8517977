/- tailracelaw07.head: the document's example. -/
import Derived.Test.YtjlkakggmfmfiaaDecFin
import Derived.Test.YtjlkakggmfmfiaaEnc
import Derived.Test.YtjlkakggmfmfiaaTxLaw
set_option maxRecDepth 100000
set_option linter.unusedVariables false
namespace Go.Proofs.Ytjlkakggmfmfiaa
open Go Go.RowKit
/-- The example. -/
def tS : TTx := ⟨0, [in0], [⟨0, ⟨#[]⟩⟩], 0⟩
theorem in0_ok : in0.Ok := ⟨rfl, (fun x hx => by rw [List.eq_of_mem_replicate hx]; exact ⟨by decide, by decide⟩), by decide, by decide, by decide, by decide, by decide, (fun s hs => by cases hs)⟩
theorem out0_ok : (⟨0, ⟨#[]⟩⟩ : TOut).Ok := ⟨by decide, by decide, by decide⟩
theorem tS_ok : tS.Ok := ⟨by decide, by decide, by decide, by decide, (fun x hx => by rw [List.mem_singleton.1 hx]; exact in0_ok), (fun x hx => by rw [List.mem_singleton.1 hx]; exact out0_ok)⟩
theorem tS_len : (encF tS).length = 60 := by decide +kernel
theorem tS_err : encErr tS = 0 := by decide +kernel
theorem tS_bounds : Bounds tS := checkF_zero (by decide +kernel)
/-- Bytes of the call's own that are some: where they lie. -/
theorem own_some {w : World} {base n c : Nat} {A : Option Addr} {e : TypeId} {xs : List Value} (h : w.ownsRow base e 1 (.slice A n c) n xs) (hn : 0 < n) : ∃ g, A = some ⟨g, 0, none⟩ ∧ base ≤ g ∧ g < w.heap.size := by
  rcases h.2 with ⟨_, h0⟩ | ⟨g, cap, cur, hv, hb, hg, _⟩
  · omega
  · injection hv with e1 e2 e3
    exact ⟨g, e1, hb, heap_lt hg⟩
theorem inK_one {S : Nat → Prop} {w : World} {g : Nat} {t : TypeId} {fz : Nat × Nat} {x : TIn} (hS : S g) (h : w.heap[g]? = some (.cells (inCells x (.slice none 0 0)).toArray t fz)) (hx : x.Ok) (hw : x.wit = []) : inK.C S w (some ⟨g, 0, none⟩) 1 [x] := by
  refine ⟨rfl, fun _ => ⟨g, 0, rfl, hS, heap_lt h, fun i y hy => ?_⟩⟩
  obtain rfl : i = 0 := by have := (List.getElem?_eq_some_iff.1 hy).1; simp at this; omega
  obtain rfl : x = y := by simpa using hy
  refine ⟨_, ⟨none, 0, 0, rfl, hx, Nat.le_refl _, Nat.zero_le _, by rw [hw]; exact RK.C.nil _ _ _ _⟩, fun j v hv => ?_⟩
  rw [show 0 + 0 * inK.sz + j = j by omega]
  exact blk_cell h (by rw [List.getElem?_toArray]; exact hv)
set_option maxHeartbeats 2000000 in
theorem head07_calls (w : World) : Calls Try.prog 12 #[] w fun e w' => e = .returned (.bool true) ∧ Below w.heap.size w w' := by
  go_enter Try.func12, Try.ntmps12
  go_upto_region 2 with (first | (refine wpList_build1 rfl 31 61 _ rfl Try.underlying31 _ 36 88 zinfo_in (by decide) (by decide) (inCells in0 (.slice none 0 0)) (inCells_length in0_len _) rfl rfl ?_))
  have hcell : ∀ wi : World, wi = ((w.alloc (.cells (inCells in0 (.slice none 0 0)).toArray 61)).alloc (.cells #[.int .i64 0, .string ⟨#[]⟩] 63)).alloc (.cells (tCells 0 (.slice (some ⟨w.heap.size, 0, none⟩) 1 1) (.slice (some ⟨w.heap.size + 1, 0, none⟩) 1 1) 0) 35) →
      txK.K (fun _ => True) wi tS [.int .i32 0, .slice (some ⟨w.heap.size, 0, none⟩) 1 1, .slice (some ⟨w.heap.size + 1, 0, none⟩) 1 1, .int .u32 0] ∧ wi.heap[w.heap.size + 1 + 1]? = some (.cells (tCells 0 (.slice (some ⟨w.heap.size, 0, none⟩) 1 1) (.slice (some ⟨w.heap.size + 1, 0, none⟩) 1 1) 0) 35) ∧ Below w.heap.size w wi := by
    rintro wi rfl
    refine ⟨⟨_, 1, 1, _, 1, 1, rfl, by decide, by decide, Nat.le_refl _, by decide, Nat.le_refl _, by decide, ?_, ?_⟩, ?_, ?_⟩
    · exact inK_one trivial (blk_alloc (blk_alloc (heap_alloc_new w _) _) _) in0_ok rfl
    · have h2 := heap_alloc_new (w.alloc (.cells (inCells in0 (.slice none 0 0)).toArray 61)) (.cells #[.int .i64 0, .string ⟨#[]⟩] 63)
      have e2 : (w.alloc (.cells (inCells in0 (.slice none 0 0)).toArray 61)).heap.size = w.heap.size + 1 := by simp
      rw [e2] at h2
      exact outK_one (x := ⟨0, ⟨#[]⟩⟩) (blk_alloc h2 _) out0_ok |>.mono (fun _ _ => trivial)
    · have h3 := heap_alloc_new ((w.alloc (.cells (inCells in0 (.slice none 0 0)).toArray 61)).alloc (.cells #[.int .i64 0, .string ⟨#[]⟩] 63)) (.cells (tCells 0 (.slice (some ⟨w.heap.size, 0, none⟩) 1 1) (.slice (some ⟨w.heap.size + 1, 0, none⟩) 1 1) 0) 35)
      simpa using h3
    · exact (((Below.refl _ _).alloc (Nat.le_refl _) _).alloc (by simp) _).alloc (by simp; omega) _
  refine wp_gen (q := fun wi => txK.K (fun _ => True) wi tS [.int .i32 0, .slice (some ⟨w.heap.size, 0, none⟩) 1 1, .slice (some ⟨w.heap.size + 1, 0, none⟩) 1 1, .int .u32 0] ∧ wi.heap[w.heap.size + 1 + 1]? = some (.cells (tCells 0 (.slice (some ⟨w.heap.size, 0, none⟩) 1 1) (.slice (some ⟨w.heap.size + 1, 0, none⟩) 1 1) 0) 35) ∧ Below w.heap.size w wi) (hcell _ rfl) (fun w0 hw => ?_)
  clear hcell
  obtain ⟨hK0, hg0, hb0⟩ := hw
  have a0 := blk_cell hg0 (i := 0) (v := .int .i32 0) rfl
  have a1 := blk_cell hg0 (i := 1) (v := .slice (some ⟨w.heap.size, 0, none⟩) 1 1) rfl
  have a2 := blk_cell hg0 (i := 2) (v := .slice (some ⟨w.heap.size + 1, 0, none⟩) 1 1) rfl
  have a3 := blk_cell hg0 (i := 3) (v := .int .u32 0) rfl
  go_wp2_with fail
  refine (enc_calls w0 _ tS _ hK0).mono ?_
  rintro e w1 ⟨_, hE, hb1⟩
  obtain ⟨A, N, c, rfl, hO⟩ := hE tS_err
  have hN : N = 60 := by have := own_len hO; rw [tS_len] at this; exact this.symm
  subst hN
  obtain ⟨D, rfl, hDb, hDl⟩ := own_some hO (by decide)
  have hRd := Rd.of_own hO
  have hle := own_le hO
  have hb01 := below_then hb0 hb0.size hb1
  have hby : Bytes (encF tS) := layF_bytes tS_ok _
  clear hE hO hb1 hb0 hg0 a0 a1 a2 a3 hK0
  go_wp2_with fail
  refine (dec_calls w1 D 0 60 c (encF tS) hle.1 hle.2 hRd hDl hby).mono ?_
  rintro e w2 ⟨cs, rfl, hK2, _, hb2⟩
  have hd := dec_enc tS_ok tS_bounds (by rw [tS_len]; decide) []
  rw [List.append_nil] at hd
  have hK2 := hK2 hd.1
  rw [hd.2.2.1] at hK2
  rw [hd.1, hd.2.1, tS_len, if_pos rfl]
  obtain ⟨A1, c1, A2, c2, rfl, _⟩ := txK_form hK2
  have hb02 := below_then hb01 hb01.size hb2
  clear hK2 hd hRd hb2 hb01 hle
  go_wp2
  go_ret
  exact ⟨rfl, hb02.alloc hb02.size _⟩
end Go.Proofs.Ytjlkakggmfmfiaa
