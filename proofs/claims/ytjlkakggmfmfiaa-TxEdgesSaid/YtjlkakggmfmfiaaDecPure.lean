/- tx.Decode in plain terms. -/
import Derived.Test.YtjlkakggmfmfiaaRdrPure
import Derived.Test.YtjlkakggmfmfiaaGen0
set_option maxRecDepth 100000
set_option linter.unusedVariables false
namespace Go.Proofs.Ytjlkakggmfmfiaa
open Go Go.RowKit
def zpad (bs : List Int) : List Int := bs ++ List.replicate (32 - bs.length) 0
theorem zpad_length (bs : List Int) (h : bs.length ≤ 32) : (zpad bs).length = 32 := by simp only [zpad, List.length_append, List.length_replicate]; omega
theorem zpad_bytes (bs : List Int) (h : Bytes bs) : Bytes (zpad bs) := h.append (fun x hx => by rw [List.eq_of_mem_replicate hx]; exact ⟨by decide, by decide⟩)
def inP1 (p : PSt) : TIn × PSt :=
  (⟨zpad (p.takeB 32), ofLE ((p.take 32).takeB 4), strOfNums (((p.take 32).take 4).textB), ofLE ((((p.take 32).take 4).text).takeB 4), []⟩, (((p.take 32).take 4).text).take 4)
def insP : Nat → PSt → List TIn × PSt
  | 0, p => ([], p)
  | n + 1, p => if p.e ≠ 0 then ([], p) else ((inP1 p).1 :: (insP n (inP1 p).2).1, (insP n (inP1 p).2).2)
def outP1 (p : PSt) : TOut × PSt := (⟨IntKind.i64.wrap (ofLE (p.takeB 8)), strOfNums ((p.take 8).textB)⟩, (p.take 8).text)
def outsP : Nat → PSt → List TOut × PSt
  | 0, p => ([], p)
  | n + 1, p => if p.e ≠ 0 then ([], p) else ((outP1 p).1 :: (outsP n (outP1 p).2).1, (outsP n (outP1 p).2).2)
def witsP : Nat → PSt → List ByteArray × PSt
  | 0, p => ([], p)
  | n + 1, p => if p.e ≠ 0 then ([], p) else (strOfNums p.textB :: (witsP n p.text).1, (witsP n p.text).2)
def witP1 (p : PSt) : List ByteArray × PSt := witsP (p.countV 100) (p.count 100)
def allW : List TIn → PSt → List TIn × PSt
  | [], p => ([], p)
  | x :: r, p => ({ x with wit := (witP1 p).1 } :: (allW r (witP1 p).2).1, (allW r (witP1 p).2).2)
def decW (bs : List Int) : Bool := decide (((⟨bs.take 65536, 0⟩ : PSt).take 4).e = 0 ∧ 2 ≤ ((⟨bs.take 65536, 0⟩ : PSt).take 4).bs.length ∧ rd ((⟨bs.take 65536, 0⟩ : PSt).take 4).bs 0 = 0 ∧ rd ((⟨bs.take 65536, 0⟩ : PSt).take 4).bs 1 = 1)
def decP2 (bs : List Int) : PSt := if decW bs then ((⟨bs.take 65536, 0⟩ : PSt).take 4).take 2 else (⟨bs.take 65536, 0⟩ : PSt).take 4
def decI (bs : List Int) : List TIn × PSt := insP ((decP2 bs).countV 1024) ((decP2 bs).count 1024)
def decO (bs : List Int) : List TOut × PSt := outsP ((decI bs).2.countV 1024) ((decI bs).2.count 1024)
def decWs (bs : List Int) : List TIn × PSt := if decW bs then allW (decI bs).1 (decO bs).2 else ((decI bs).1, (decO bs).2)
def decT (bs : List Int) : TTx := ⟨IntKind.i32.wrap (ofLE ((⟨bs.take 65536, 0⟩ : PSt).takeB 4)), (decWs bs).1, (decO bs).1, ofLE ((decWs bs).2.takeB 4)⟩
def decP9 (bs : List Int) : PSt := (decWs bs).2.take 4
def decE1 (bs : List Int) : Int := if (decP9 bs).e = 8 ∧ 65536 < bs.length then 2 else (decP9 bs).e
/-- Why bytes begin with no transaction; 0: they do. -/
def decE (bs : List Int) : Int := if decE1 bs = 0 ∧ ((decWs bs).1.length = 0 ∨ (decO bs).1.length = 0 ∨ (decW bs = true ∧ (decT bs).hasWit = false)) then 2 else decE1 bs
def decN (bs : List Int) : Nat := min bs.length 65536 - (decP9 bs).bs.length
theorem PSt.take_bytes {p : PSt} (h : Bytes p.bs) (n : Nat) : Bytes (p.take n).bs := by
  unfold PSt.take
  split
  · split
    · exact h.drop n
    · exact h
  · exact h
theorem PSt.count_bytes {p : PSt} (h : Bytes p.bs) (n : Nat) : Bytes (p.count n).bs := by
  unfold PSt.count
  split
  · exact h
  · split
    · exact h
    · split
      · exact h
      · exact h.drop _
theorem PSt.text_bytes {p : PSt} (h : Bytes p.bs) : Bytes p.text.bs := PSt.take_bytes (PSt.count_bytes h 10000) _
theorem PSt.countV_le (p : PSt) (most : Nat) : p.countV most ≤ most := by
  unfold PSt.countV
  split
  · omega
  · split
    · omega
    · split <;> omega
theorem PSt.textB_bytes {p : PSt} (h : Bytes p.bs) : Bytes p.textB := PSt.takeB_bytes (PSt.count_bytes h _) _
theorem PSt.textB_len (p : PSt) : p.textB.length ≤ 10000 := Nat.le_trans (PSt.takeB_len _ _) (PSt.countV_le p 10000)
theorem le4_takeB {p : PSt} (h : Bytes p.bs) : 0 ≤ ofLE (p.takeB 4) ∧ ofLE (p.takeB 4) ≤ 4294967295 := le4 _ (PSt.takeB_bytes h 4) (PSt.takeB_len p 4)
theorem inP1_ok {p : PSt} (h : Bytes p.bs) : (inP1 p).1.Ok := by
  have h1 := PSt.take_bytes h 32
  have h2 := PSt.take_bytes h1 4
  have h3 : Bytes ((p.take 32).take 4).text.bs := PSt.take_bytes (PSt.count_bytes h2 10000) _
  refine ⟨zpad_length _ (PSt.takeB_len _ _), zpad_bytes _ (PSt.takeB_bytes h 32), (le4_takeB h1).1, (le4_takeB h1).2, (le4_takeB h3).1, (le4_takeB h3).2, ?_, (fun s hs => by cases hs)⟩
  show (strOfNums _).size ≤ maxLen
  rw [strOfNums_size]
  have := PSt.textB_len ((p.take 32).take 4)
  unfold maxLen
  omega
theorem inP1_bytes {p : PSt} (h : Bytes p.bs) : Bytes (inP1 p).2.bs := PSt.take_bytes (PSt.take_bytes (PSt.count_bytes (PSt.take_bytes (PSt.take_bytes h 32) 4) 10000) _) 4
theorem outP1_ok {p : PSt} (h : Bytes p.bs) : (outP1 p).1.Ok := by
  refine ⟨?_, ?_, ?_⟩
  · show -9223372036854775808 ≤ IntKind.i64.wrap _
    rw [IntKind.wrap_i64]; omega
  · show IntKind.i64.wrap _ ≤ 9223372036854775807
    rw [IntKind.wrap_i64]; omega
  · show (strOfNums _).size ≤ maxLen
    rw [strOfNums_size]
    have := PSt.textB_len (p.take 8)
    unfold maxLen
    omega
theorem outP1_bytes {p : PSt} (h : Bytes p.bs) : Bytes (outP1 p).2.bs := PSt.take_bytes (PSt.count_bytes (PSt.take_bytes h 8) 10000) _
end Go.Proofs.Ytjlkakggmfmfiaa
