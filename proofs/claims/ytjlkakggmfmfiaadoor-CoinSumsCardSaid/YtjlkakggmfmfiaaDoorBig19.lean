/- Law 19's big, and Set.Apply. -/
import Derived.Test.YtjlkakggmfmfiaaDoorLeftA
set_option maxRecDepth 100000
set_option linter.unusedVariables false
namespace Go.Proofs.YtjlkakggmfmfiaaDoor
open Go Go.RowKit
/-- What the law's guard lets through. -/
def BlksOk (bs : List (List TPay)) : Prop := bs.length ≤ 8 ∧ ∀ ps ∈ bs, PaysOk ps
abbrev blksK : RK (List TPay) := RK.slice payK
def Big19Post (w : World) (bs : List (List TPay)) (e : Ending) (w' : World) : Prop := ∃ b, e = .returned (.bool b) ∧ (b = false → BlksOk bs) ∧ Below w.heap.size w w'
set_option maxHeartbeats 16000000 in
theorem big19_calls (w : World) (S : Nat → Prop) (A : Option Addr) (n c : Nat) (bs : List (List TPay)) (hnc : n ≤ c) (hcm : c ≤ maxLen) (hC : blksK.C S w A n bs) :
    Calls Tryd.prog 57 #[.slice A n c] w (Big19Post w bs) := by
  have hUY := Tryd.underlying159
  unfold maxLen at hcm
  have hnI : (n : Int) ≤ 9223372036854775807 := by omega
  have HL := Lib.hid hC.len
  go_enter Tryd.func57, Tryd.ntmps57
  by_cases e1 : 8 < n
  · have e1' : (8 : Int) < (n : Int) := by omega
    go_wp2
    go_ret
    exact ⟨true, rfl, (fun h => by cases h), Below.refl _ _⟩
  · have e1' : ¬ (8 : Int) < (n : Int) := by omega
    go_wp2
    go_loopw [12] (fun v12 wr => ∃ (k : Nat), k ≤ n ∧ v12 = .int .i64 k ∧ Hid (∀ t ∈ bs.take k, PaysOk t) ∧ Below w.heap.size w wr) (fun v _ => n - (intOf v).toNat)
    case atStart => exact ⟨0, by omega, rfl, Lib.hid (fun t h => by simp at h), Below.refl _ _⟩
    case round =>
      obtain ⟨k, hk, rfl, HT, hB⟩ := hrel
      rename World => wo
      by_cases hlt : k < n
      · have hlt' : (k : Int) < (n : Int) := by omega
        have hkk : (0 : Int) ≤ (k : Int) := by omega
        obtain ⟨b, o, cs, ps, hA, hx, ⟨P1, np, pc, rfl, hpc, hpm, hP⟩, hcx⟩ := (RK.C.below hC hB).get k hlt
        subst hA
        unfold maxLen at hpm
        have hnpI : (np : Int) ≤ 9223372036854775807 := by omega
        have hcl : wo.cell? ⟨b, o + k, none⟩ = some (.slice P1 np pc) := by
          have := hcx 0 _ (show [Value.slice P1 np pc][0]? = some (.slice P1 np pc) from rfl)
          rwa [show (RK.slice payK).sz = 1 from rfl, Nat.mul_one, Nat.add_zero] at this
        have HX := Lib.hid hx
        have HPL := Lib.hid hP.len
        clear hx hcx
        by_cases f1 : 6 < np
        · have f1' : (6 : Int) < (np : Int) := by omega
          go_wp2
          go_ret
          exact ⟨true, rfl, (fun h => by cases h), hB⟩
        · have f1' : ¬ (6 : Int) < (np : Int) := by omega
          go_wp2
          go_loopw [21] (fun v21 wq => ∃ (j : Nat), j ≤ np ∧ v21 = .int .i64 j ∧ Hid (∀ y ∈ ps.take j, y.1.length ≤ 6 ∧ y.2.1.length ≤ 6) ∧ Below wo.heap.size wo wq) (fun v _ => np - (intOf v).toNat)
          case atStart => exact ⟨0, by omega, rfl, Lib.hid (fun y h => by simp at h), Below.refl _ _⟩
          case round =>
            obtain ⟨j, hj, rfl, HI, hBq⟩ := hrel
            have hbq := below_then hB hB.size hBq
            by_cases hjl : j < np
            · have hjl' : (j : Int) < (np : Int) := by omega
              have hjj : (0 : Int) ≤ (j : Int) := by omega
              obtain ⟨b2, o2, cs2, y, hA2, hy, hKy, hc2⟩ := (RK.C.below hP hBq).get j hjl
              obtain ⟨frm, tos, lock⟩ := y
              obtain ⟨c1, c2, rfl, ⟨Af, nf, cf, rfl, hf1, hf2, hfC⟩, c3, c4, rfl, ⟨Ag, ng, cg, rfl, hg1, hg2, hgC⟩, rfl, hl0, hl1⟩ := hKy
              subst hA2
              unfold maxLen at hf2 hg2
              have hnfI : (nf : Int) ≤ 9223372036854775807 := by omega
              have hngI : (ng : Int) ≤ 9223372036854775807 := by omega
              have hcr : wr.rangeAt b2 (o2 + j * 3) [.slice Af nf cf, .slice Ag ng cg, .int .i64 lock] := hc2
              have hiY : (Tryd.prog.info? 159).map (·.size) = some ([.slice Af nf cf, .slice Ag ng cg, .int .i64 lock] : List Value).length := by rw [show ([.slice Af nf cf, .slice Ag ng cg, .int .i64 lock] : List Value).length = 3 from rfl]; kernel_rfl
              have HY := Lib.hid hy
              have HF1 := Lib.hid hfC.len
              have HF2 := Lib.hid hgC.len
              clear hy hc2 hfC hgC
              go_upto_region 11 with (first
                | ((with_reducible refine wpList_at 24 ?_); refine wpList_load_mid rfl 159 (.tmp 23) rfl b2 (o2 + j * 3) rfl [.slice Af nf cf, .slice Ag ng cg, .int .i64 lock] _ hcr hUY rfl hiY ?_))
              refine wp_gen (q := fun wi => wi.heap[wr.heap.size]? = some (.cells #[.slice Af nf cf, .slice Ag ng cg, .int .i64 lock] 159) ∧ Below wr.heap.size wr wi) ⟨heap_alloc_new _ _, (Below.refl _ _).alloc (Nat.le_refl _) _⟩ (fun w3 hw => ?_)
              obtain ⟨g3, hb3⟩ := hw
              have t0 : w3.cell? ⟨wr.heap.size, 0, none⟩ = some (.slice Af nf cf) := blk_cell g3 rfl
              have t1 : w3.cell? ⟨wr.heap.size, 1, none⟩ = some (.slice Ag ng cg) := blk_cell g3 rfl
              have hB3 := below_then hBq hBq.size hb3
              have hbq3 := below_then hbq hbq.size hb3
              clear g3 hcr hBq hbq
              by_cases q1 : 6 < nf
              · have q1' : decide ((6 : Int) < (nf : Int)) = true := decide_eq_true (by omega)
                go_wp2
                go_ret
                exact ⟨true, rfl, (fun h => by cases h), hbq3⟩
              · have q1' : decide ((6 : Int) < (nf : Int)) = false := decide_eq_false (by omega)
                by_cases q2 : 6 < ng
                · have q2' : decide ((6 : Int) < (ng : Int)) = true := decide_eq_true (by omega)
                  go_wp2
                  go_ret
                  exact ⟨true, rfl, (fun h => by cases h), hbq3⟩
                · have q2' : decide ((6 : Int) < (ng : Int)) = false := decide_eq_false (by omega)
                  have HN : Hid (∀ y ∈ ps.take (j + 1), y.1.length ≤ 6 ∧ y.2.1.length ≤ 6) := Lib.hid (by
                    intro y hy
                    rw [List.take_add_one, HY.out] at hy
                    rcases List.mem_append.1 hy with hy | hy
                    · exact HI.out y hy
                    · obtain rfl : y = (frm, tos, lock) := by simpa using hy
                      exact ⟨by rw [HF1.out]; omega, by rw [HF2.out]; omega⟩)
                  go_wp2
                  go_roundw
                  case rel => exact ⟨j + 1, by omega, by go_num, HN, hB3⟩
                  case measure => simp [intOf]; omega
            · have hjl' : ¬ (j : Int) < (np : Int) := by omega
              have HPO : Hid (PaysOk ps) := Lib.hid ⟨by rw [HPL.out]; omega, fun y hy => HI.out y (by rwa [List.take_of_length_le (by rw [HPL.out]; omega)])⟩
              have HN : Hid (∀ t ∈ bs.take (k + 1), PaysOk t) := Lib.hid (by
                intro t ht
                rw [List.take_add_one, HX.out] at ht
                rcases List.mem_append.1 ht with ht | ht
                · exact HT.out t ht
                · obtain rfl : t = ps := by simpa using ht
                  exact HPO.out)
              go_wp2
              go_roundw
              case rel => exact ⟨k + 1, by omega, by go_num, HN, hbq⟩
              case measure => simp [intOf]; omega
      · have hlt' : ¬ (k : Int) < (n : Int) := by omega
        have HBO : Hid (BlksOk bs) := Lib.hid ⟨by rw [HL.out]; omega, fun t ht => HT.out t (by rwa [List.take_of_length_le (by rw [HL.out]; omega)])⟩
        go_wp2
        go_ret
        exact ⟨false, rfl, fun _ => HBO.out, hB⟩
end Go.Proofs.YtjlkakggmfmfiaaDoor
