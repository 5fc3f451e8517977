/- tailraceref07: Count and Text. -/
import Derived.Test.YtjlkakggmfmfiaaBase
import Derived.Test.YtjlkakggmfmfiaaTxt
set_option maxRecDepth 100000
set_option linter.unusedVariables false
namespace Go.Proofs.Ytjlkakggmfmfiaa
open Go Go.RowKit
/-- Bytes that were made by the call. -/
def FreshPost (w : World) (zs : List Int) (e : Ending) (w' : World) : Prop := ∃ A c, e = .returned (.slice A zs.length c) ∧ w'.ownsRow w.heap.size 5 1 (.slice A zs.length c) zs.length (nums .u8 zs) ∧ Below w.heap.size w w'
theorem AppPost.fresh {w w' : World} {N : Nat} {zs : List Int} {e : Ending} (h : AppPost w w.heap.size (.slice none 0 0) N zs e w') : FreshPost w zs e w' := by
  obtain ⟨A, c, rfl, hO, hG, _⟩ := h
  obtain rfl : zs.length = N := by have := hO.1; rwa [nums_length, Nat.mul_one] at this
  exact ⟨A, c, rfl, hO, (Below.refl _ _).grown hG (Nat.le_refl _) (fun k hk => by simp [Value.ownBlock] at hk)⟩
set_option maxHeartbeats 1000000 in
theorem rcount_calls (w : World) (x : Nat) (hx : x ≤ 1000000000) (xz : Int) (hxz : xz = (x : Int)) : Calls Try.prog 37 #[.int .i64 xz] w (FreshPost w (compF x)) := by
  subst hxz
  by_cases h1 : x < 253
  · have h1' : (x : Int) < 253 := by omega
    have hm : (x : Int) % 256 = (x : Int) := by omega
    have hcf : compF x = [(x : Int)] := by unfold compF; rw [if_pos h1]
    rw [hcf]
    have hP : FreshPost w [(x : Int)] (.returned (.slice (some ⟨w.heap.size, 0, none⟩) 1 1)) (w.alloc (.cells #[.int .u8 (x : Int)] 5)) :=
      ⟨_, 1, rfl, own_new (nums .u8 [(x : Int)]) (Nat.le_refl _) (by simp [nums, maxLen]), (Below.refl _ _).alloc (Nat.le_refl _) _⟩
    have HP := Lib.hid hP
    clear hP hcf
    go_enter Try.func37, Try.ntmps37
    go_wp2
    go_ret
    exact HP.out
  · have h1' : ¬ (x : Int) < 253 := by omega
    by_cases h2 : x ≤ 65535
    · have h2' : (x : Int) < 65536 := by omega
      have hcf : compF x = 253 :: leF 2 x := by unfold compF; rw [if_neg h1, if_pos h2]
      have HCF := Lib.hid hcf
      have hw : IntKind.u64.wrap (x : Int) = (x : Int) := by rw [IntKind.wrap_u64]; omega
      have ho0 : (w.alloc (.cells (nums .u8 [253]).toArray 5)).ownsRow w.heap.size 5 1 (.slice (some ⟨w.heap.size, 0, none⟩) 1 1) 1 (nums .u8 [253]) := own_new (nums .u8 [253]) (Nat.le_refl _) (by decide)
      have hba : Below w.heap.size w (w.alloc (.cells (nums .u8 [253]).toArray 5)) := (Below.refl _ _).alloc (Nat.le_refl _) _
      clear hcf
      go_enter Try.func37, Try.ntmps37
      go_wp2_with fail
      refine (reflit_calls _ x 2 (by omega) (by decide) _ rfl _ rfl).mono ?_
      rintro e w1 hp
      obtain ⟨A1, c1, rfl, ho, hb1⟩ := hp.fresh
      have hr1 := Rd.of_own ho
      rw [leF_length] at hr1 ⊢
      clear ho
      have ho1 := own_below ho0 hb1
      have hB1 := below_then hba (by simp) hb1
      clear hp ho0 hba hb1
      have hbs : w.heap.size ≤ w1.heap.size := hB1.size
      go_wp2_with (first | ((with_reducible refine wpList_at 14 ?_); refine wpList_appN rfl (.tmp 10) (.tmp 13) 36 rfl w.heap.size 5 _ 1 Try.underlying36 infoU8 rfl (.slice (some ⟨w.heap.size, 0, none⟩) 1 1) 1 (nums .u8 [253]) rfl ho1 A1 2 c1 (nums .u8 (leF 2 x)) rfl hr1 (nums_one _ _) (1 + 2) (nums .u8 (253 :: leF 2 x)) rfl rfl (by decide) (by decide) hbs ?_; intro A2 c2 w2 hO2 hG2 hx2))
      have hB2 := hB1.grown hG2 hbs (fun q e => by cases e; exact Nat.le_refl _)
      have hP : FreshPost w (compF x) (.returned (.slice A2 (1 + 2) c2)) w2 := by
        have e : (253 :: leF 2 x).length = 1 + 2 := by rw [List.length_cons, leF_length, Nat.add_comm]
        rw [HCF.out]
        exact ⟨A2, c2, by rw [e], by rw [e]; exact hO2, hB2⟩
      have HP := Lib.hid hP
      clear hP hO2 hG2 hx2 hB2
      go_ret
      exact HP.out
    · have h2' : ¬ (x : Int) < 65536 := by omega
      have hcf : compF x = 254 :: leF 4 x := by unfold compF; rw [if_neg h1, if_neg h2, if_pos (by omega)]
      have HCF := Lib.hid hcf
      have hw : IntKind.u64.wrap (x : Int) = (x : Int) := by rw [IntKind.wrap_u64]; omega
      have ho0 : (w.alloc (.cells (nums .u8 [254]).toArray 5)).ownsRow w.heap.size 5 1 (.slice (some ⟨w.heap.size, 0, none⟩) 1 1) 1 (nums .u8 [254]) := own_new (nums .u8 [254]) (Nat.le_refl _) (by decide)
      have hba : Below w.heap.size w (w.alloc (.cells (nums .u8 [254]).toArray 5)) := (Below.refl _ _).alloc (Nat.le_refl _) _
      clear hcf
      go_enter Try.func37, Try.ntmps37
      go_wp2_with fail
      refine (reflit_calls _ x 4 (by omega) (by decide) _ rfl _ rfl).mono ?_
      rintro e w1 hp
      obtain ⟨A1, c1, rfl, ho, hb1⟩ := hp.fresh
      have hr1 := Rd.of_own ho
      rw [leF_length] at hr1 ⊢
      clear ho
      have ho1 := own_below ho0 hb1
      have hB1 := below_then hba (by simp) hb1
      clear hp ho0 hba hb1
      have hbs : w.heap.size ≤ w1.heap.size := hB1.size
      go_wp2_with (first | ((with_reducible refine wpList_at 19 ?_); refine wpList_appN rfl (.tmp 15) (.tmp 18) 36 rfl w.heap.size 5 _ 1 Try.underlying36 infoU8 rfl (.slice (some ⟨w.heap.size, 0, none⟩) 1 1) 1 (nums .u8 [254]) rfl ho1 A1 4 c1 (nums .u8 (leF 4 x)) rfl hr1 (nums_one _ _) (1 + 4) (nums .u8 (254 :: leF 4 x)) rfl rfl (by decide) (by decide) hbs ?_; intro A2 c2 w2 hO2 hG2 hx2))
      have hB2 := hB1.grown hG2 hbs (fun q e => by cases e; exact Nat.le_refl _)
      have hP : FreshPost w (compF x) (.returned (.slice A2 (1 + 4) c2)) w2 := by
        have e : (254 :: leF 4 x).length = 1 + 4 := by rw [List.length_cons, leF_length, Nat.add_comm]
        rw [HCF.out]
        exact ⟨A2, c2, by rw [e], by rw [e]; exact hO2, hB2⟩
      have HP := Lib.hid hP
      clear hP hO2 hG2 hx2 hB2
      go_ret
      exact HP.out
theorem bytes_of_rd (w : World) (src dst e : TypeId) (s : ByteArray) (hs : Try.prog.underlying src = some .string) (hd : Try.prog.underlying dst = some (.slice e)) (he : Try.prog.underlying e = some (.int .u8)) :
    ∃ A c w', (convert src dst (.string s)).run Try.prog w = .ok (.slice A s.size c) w' ∧ Rd w' A s.size (nums .u8 (bytesOf s)) ∧ Below w.heap.size w w' := by
  refine ⟨_, _, _, run_bytes_of_string w src dst e s hs hd he, ?_, ?_⟩
  · have hg : (w.drew.alloc (.cells (bytesRow s (grownCap w s.size 0 e)) e ((bytesRow s (grownCap w s.size 0 e)).size, (bytesRow s (grownCap w s.size 0 e)).size + 1))).heap[w.heap.size]? = some (.cells (bytesRow s (grownCap w s.size 0 e)) e ((bytesRow s (grownCap w s.size 0 e)).size, (bytesRow s (grownCap w s.size 0 e)).size + 1)) := heap_alloc_new w.drew _
    have h1 : (bytesRow s (grownCap w s.size 0 e)).toList = nums .u8 (bytesOf s) ++ List.replicate (grownCap w s.size 0 e - s.size) (.int .u8 0) := by
      simp [bytesRow, nums, bytesOf]
    have h2 : (nums .u8 (bytesOf s)).length = s.size := by rw [nums_length, bytesOf_length]
    have h3 : s.size ≤ (bytesRow s (grownCap w s.size 0 e)).size := by
      rw [← Array.length_toList, h1, List.length_append, h2]
      omega
    have := Rd.of_block hg s.size (o := 0) (by omega)
    rw [List.drop_zero, h1, List.take_append_of_le_length (by omega), List.take_of_length_le (by omega)] at this
    exact this
  · exact ((Below.drew (Below.refl _ _)).alloc (Nat.le_refl _) _)
set_option maxHeartbeats 1000000 in
theorem rtextw_calls (w : World) (s : ByteArray) (hs : s.size ≤ 1000000) : Calls Try.prog 38 #[.string s] w (FreshPost w (textF s)) := by
  have hsz : (s.size : Int) ≤ 1000000 := by omega
  go_enter Try.func38, Try.ntmps38
  go_wp2_with fail
  refine (rcount_calls w s.size (by omega) _ rfl).mono ?_
  rintro e w1 ⟨A1, c1, rfl, ho1, hb1⟩
  obtain ⟨A2, c2, w2, hrun, hr2, hb2⟩ := bytes_of_rd w1 9 36 5 s Try.underlying9 Try.underlying36 Try.underlying5
  have ho2 := own_below ho1 hb2
  have hcl := compF_le s.size
  have hB2 := below_then hb1 hb1.size hb2
  clear ho1 hb1 hb2
  have hbs : w.heap.size ≤ w2.heap.size := hB2.size
  go_wp2_with (first | ((with_reducible refine wpList_at 8 ?_); refine wpList_appN rfl (.tmp 5) (.tmp 7) 36 rfl w.heap.size 5 _ 1 Try.underlying36 infoU8 rfl (.slice A1 (compF s.size).length c1) (compF s.size).length (nums .u8 (compF s.size)) rfl ho2 A2 s.size c2 (nums .u8 (bytesOf s)) rfl hr2 (nums_one _ _) ((compF s.size).length + s.size) (nums .u8 (compF s.size ++ bytesOf s)) rfl (nums_append _ _ _).symm (by unfold maxLen; omega) (by omega) hbs ?_; intro A3 c3 w3 hO3 hG3 hx3))
  have hlo := (own_base ho2 : ∀ k, _ → _)
  have hB3 := hB2.grown hG3 hbs (fun q e => hlo q e)
  have hP : FreshPost w (textF s) (.returned (.slice A3 ((compF s.size).length + s.size) c3)) w3 := by
    have e : (textF s).length = (compF s.size).length + s.size := textF_length s
    exact ⟨A3, c3, by rw [e], by rw [e]; exact hO3, hB3⟩
  have HP := Lib.hid hP
  clear hP hO3 hG3 hx3 hB3 hrun
  go_ret
  exact HP.out
end Go.Proofs.Ytjlkakggmfmfiaa
