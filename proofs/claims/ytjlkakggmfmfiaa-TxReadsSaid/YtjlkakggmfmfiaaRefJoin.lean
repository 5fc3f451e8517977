/- The reference's Decode and the law's: the parts joined, in plain terms. -/
import Derived.Test.YtjlkakggmfmfiaaRefDecP
set_option maxRecDepth 100000
set_option linter.unusedVariables false
namespace Go.Proofs.Ytjlkakggmfmfiaa
open Go Go.RowKit
theorem cnt_bad {s : PSt} (h : s.e ≠ 0) (m : Nat) : s.count m = s := by
  unfold PSt.count
  rw [if_pos h]
theorem outs_bad (n : Nat) {s : PSt} (h : s.e ≠ 0) : outsP n s = ([], s) := by
  cases n with
  | zero => rfl
  | succ n => rw [outsP, if_pos h]
theorem wits_bad (n : Nat) {s : PSt} (h : s.e ≠ 0) : witsP n s = ([], s) := by
  cases n with
  | zero => rfl
  | succ n => rw [witsP, if_pos h]
theorem allW_badR {s : PSt} (h : s.e ≠ 0) : ∀ xs : List TIn, (allW xs s).2 = s
  | [] => rfl
  | x :: r => by
    have hw : (witP1 s).2 = s := by
      unfold witP1
      rw [cnt_bad h, wits_bad _ h]
    rw [allW, hw]
    exact allW_badR h r
theorem tail_bad (acc : List TIn) {s : PSt} (h : s.e ≠ 0) (b : Bool) : (if b = true then allW acc (outsP (s.countV 1024) (s.count 1024)).2 else (acc, (outsP (s.countV 1024) (s.count 1024)).2)).2 = s := by
  rw [cnt_bad h, outs_bad _ h]
  cases b
  · rfl
  · exact allW_badR h acc
theorem rd_join {bs : List Int} {acc xsI : List TIn} {s5 p9 : PSt} {OX : List TOut × PSt} {fl : Bool} (h1 : (decI bs).2.e = s5.e) (h2 : s5.e = 0 → decI bs = (acc, s5)) (hO : outsP (s5.countV 1024) (s5.count 1024) = OX) (hfl : decW bs = fl)
    (hW : (if fl = true then allW acc OX.2 else (acc, OX.2)) = (xsI, p9)) : (decP9 bs).e = (p9.take 4).e ∧ ((p9.take 4).e = 0 → decWs bs = (xsI, p9) ∧ (decO bs).1 = OX.1) := by
  by_cases hz : s5.e = 0
  · have hd := h2 hz
    have hoo : decO bs = OX := by unfold decO; rw [hd]; exact hO
    have hww : decWs bs = (xsI, p9) := by unfold decWs; rw [hd, hoo, hfl]; exact hW
    refine ⟨by unfold decP9; rw [hww], fun _ => ⟨hww, by rw [hoo]⟩⟩
  · have hb1 : (decI bs).2.e ≠ 0 := by rw [h1]; exact hz
    have e1 : p9 = s5 := by
      have := tail_bad acc hz fl
      rw [hO, hW] at this
      exact this
    have e2 : (decWs bs).2 = (decI bs).2 := by
      have := tail_bad (decI bs).1 hb1 (decW bs)
      exact this
    have e3 : (decP9 bs).e = s5.e := by
      unfold decP9
      rw [e2, PSt.take_bad hb1]
      exact h1
    rw [e1, PSt.take_bad hz]
    exact ⟨e3, fun h => absurd h hz⟩
end Go.Proofs.Ytjlkakggmfmfiaa
