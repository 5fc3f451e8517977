/- What is wrong with a transaction; its bytes: in plain terms. | tx.Decode in plain terms. | A transaction's bytes, read again, are it, and nothing behind them is taken: plain law. | A transaction's bytes cut short are none: plain law. | What tx.Decode reads is laid just so: plain law. | The bytes of a transaction are bytes. -/
import Derived.Test.YtclkgflficlmiaaDoorBase
/-! ## ChkPure -/
section
set_option maxRecDepth 100000
set_option linter.unusedVariables false
namespace Go.Proofs.YtclkgflficlmiaaDoor
open Go Go.RowKit
def witErr (ss : List ByteArray) : Bool := ss.any fun s => decide (10000 < s.size)
def inErr (x : TIn) : Int := if 100 < x.wit.length then 3 else if 10000 < x.script.size then 6 else if witErr x.wit then 6 else 0
def insErr : List TIn → Int
  | [] => 0
  | x :: r => if inErr x = 0 then insErr r else inErr x
def outsErr (os : List TOut) : Bool := os.any fun o => decide (10000 < o.script.size)
/-- What is wrong with a transaction. -/
def checkF (t : TTx) : Int :=
  if t.ins.length = 0 ∨ t.outs.length = 0 then 1 else if 1024 < t.ins.length ∨ 1024 < t.outs.length then 3
  else if insErr t.ins ≠ 0 then insErr t.ins else if outsErr t.outs then 6 else 0
theorem textF_length (s : ByteArray) : (textF s).length = (compF s.size).length + s.size := by rw [textF, List.length_append, bytesOf_length]
theorem flat_le {α : Type} (f : α → List Int) (M : Nat) : ∀ (xs : List α), (∀ x ∈ xs, (f x).length ≤ M) → (xs.flatMap f).length ≤ xs.length * M
  | [], _ => by simp
  | x :: xs, h => by
    have h1 := h x (by simp)
    have h2 := flat_le f M xs (fun y hy => h y (List.mem_cons_of_mem _ hy))
    simp only [List.flatMap_cons, List.length_append, List.length_cons, Nat.add_mul]
    omega
theorem insErr_all : ∀ (ins : List TIn), insErr ins = 0 → ∀ x ∈ ins, inErr x = 0
  | [], _, x, hx => by cases hx
  | y :: r, h, x, hx => by
    rw [insErr] at h
    by_cases h1 : inErr y = 0
    · rw [if_pos h1] at h
      rcases List.mem_cons.1 hx with rfl | hx
      · exact h1
      · exact insErr_all r h x hx
    · rw [if_neg h1] at h
      exact absurd h h1
theorem inErr_bounds {x : TIn} (h : inErr x = 0) : x.wit.length ≤ 100 ∧ x.script.size ≤ 10000 ∧ ∀ s ∈ x.wit, s.size ≤ 10000 := by
  unfold inErr at h
  split at h
  · cases h
  · split at h
    · cases h
    · split at h
      · cases h
      · rename_i h1 h2 h3
        refine ⟨by omega, by omega, fun s hs => ?_⟩
        simp only [witErr, Bool.not_eq_true, List.any_eq_false, decide_eq_true_eq] at h3
        have := h3 s hs
        omega
theorem outsErr_bounds {os : List TOut} (h : outsErr os = false) : ∀ o ∈ os, o.script.size ≤ 10000 := by
  intro o ho
  simp only [outsErr, List.any_eq_false, decide_eq_true_eq] at h
  have := h o ho
  omega
structure Bounds (t : TTx) : Prop where
  i0 : 0 < t.ins.length
  o0 : 0 < t.outs.length
  i1 : t.ins.length ≤ 1024
  o1 : t.outs.length ≤ 1024
  ins : ∀ x ∈ t.ins, x.wit.length ≤ 100 ∧ x.script.size ≤ 10000 ∧ ∀ s ∈ x.wit, s.size ≤ 10000
  outs : ∀ o ∈ t.outs, o.script.size ≤ 10000
theorem checkF_zero {t : TTx} (h : checkF t = 0) : Bounds t := by
  unfold checkF at h
  split at h
  · cases h
  · split at h
    · cases h
    · split at h
      · rename_i h1 h2 h3
        exact absurd h h3
      · split at h
        · cases h
        · rename_i h1 h2 h3 h4
          have h3' : insErr t.ins = 0 := Decidable.byContradiction h3
          exact ⟨by omega, by omega, by omega, by omega, fun x hx => inErr_bounds (insErr_all _ h3' x hx), outsErr_bounds (by simpa using h4)⟩
theorem textF_le {s : ByteArray} (h : s.size ≤ 10000) : (textF s).length ≤ 10009 := by have := textF_length s; have := compF_le s.size; omega
theorem layF_le (t : TTx) (hi : ∀ x ∈ t.ins, x.id.length = 32) (h : Bounds t) (wit : Bool) : (layF t wit).length ≤ 9000000000 := by
  have a1 := flat_le layIn 10049 t.ins (fun x hx => by
    have := hi x hx
    have := textF_le (h.ins x hx).2.1
    simp only [layIn, List.length_append, leF_length]
    omega)
  have a2 := flat_le layOut 10017 t.outs (fun o ho => by
    have := textF_le (h.outs o ho)
    simp only [layOut, List.length_append, leF_length]
    omega)
  have a3 := flat_le layWit 1000909 t.ins (fun x hx => by
    have h1 := flat_le textF 10009 x.wit (fun s hs => textF_le ((h.ins x hx).2.2 s hs))
    have h2 := compF_le x.wit.length
    have h3 := (h.ins x hx).1
    simp only [layWit, List.length_append]
    omega)
  have c1 := compF_le t.ins.length
  have c2 := compF_le t.outs.length
  have := h.i1
  have := h.o1
  simp only [layF, List.length_append, leF_length]
  cases wit
  · simp only [Bool.false_eq_true, if_false, List.length_nil]
    omega
  · simp only [if_true, List.length_cons, List.length_nil]
    omega
/-- Why a transaction has no bytes; 0: it has. -/
def encErr (t : TTx) : Int := if checkF t ≠ 0 then checkF t else if 65536 < (layF t t.hasWit).length then 6 else 0
def encF (t : TTx) : List Int := layF t t.hasWit
end Go.Proofs.YtclkgflficlmiaaDoor
end

/-! ## DecPure -/
section
set_option maxRecDepth 100000
set_option linter.unusedVariables false
namespace Go.Proofs.YtclkgflficlmiaaDoor
open Go Go.RowKit
def zpad (bs : List Int) : List Int := bs ++ List.replicate (32 - bs.length) 0
theorem zpad_length (bs : List Int) (h : bs.length ≤ 32) : (zpad bs).length = 32 := by simp only [zpad, List.length_append, List.length_replicate]; omega
theorem zpad_bytes (bs : List Int) (h : Bytes bs) : Bytes (zpad bs) := h.append (fun x hx => by rw [List.eq_of_mem_replicate hx]; exact ⟨by decide, by decide⟩)
def inP1 (p : PSt) : TIn × PSt :=
  (⟨zpad (p.takeB 32), ofLE ((p.take 32).takeB 4), strOfNums (((p.take 32).take 4).textB), ofLE ((((p.take 32).take 4).text).takeB 4), []⟩, (((p.take 32).take 4).text).take 4)
def insP : Nat → PSt → List TIn × PSt
  | 0, p => ([], p)
  | n + 1, p => if p.e ≠ 0 then ([], p) else ((inP1 p).1 :: (insP n (inP1 p).2).1, (insP n (inP1 p).2).2)
def outP1 (p : PSt) : TOut × PSt := (⟨IntKind.i64.wrap (ofLE (p.takeB 8)), strOfNums ((p.take 8).textB)⟩, (p.take 8).text)
def outsP : Nat → PSt → List TOut × PSt
  | 0, p => ([], p)
  | n + 1, p => if p.e ≠ 0 then ([], p) else ((outP1 p).1 :: (outsP n (outP1 p).2).1, (outsP n (outP1 p).2).2)
def witsP : Nat → PSt → List ByteArray × PSt
  | 0, p => ([], p)
  | n + 1, p => if p.e ≠ 0 then ([], p) else (strOfNums p.textB :: (witsP n p.text).1, (witsP n p.text).2)
def witP1 (p : PSt) : List ByteArray × PSt := witsP (p.countV 100) (p.count 100)
def allW : List TIn → PSt → List TIn × PSt
  | [], p => ([], p)
  | x :: r, p => ({ x with wit := (witP1 p).1 } :: (allW r (witP1 p).2).1, (allW r (witP1 p).2).2)
def decW (bs : List Int) : Bool := decide (((⟨bs.take 65536, 0⟩ : PSt).take 4).e = 0 ∧ 2 ≤ ((⟨bs.take 65536, 0⟩ : PSt).take 4).bs.length ∧ rd ((⟨bs.take 65536, 0⟩ : PSt).take 4).bs 0 = 0 ∧ rd ((⟨bs.take 65536, 0⟩ : PSt).take 4).bs 1 = 1)
def decP2 (bs : List Int) : PSt := if decW bs then ((⟨bs.take 65536, 0⟩ : PSt).take 4).take 2 else (⟨bs.take 65536, 0⟩ : PSt).take 4
def decI (bs : List Int) : List TIn × PSt := insP ((decP2 bs).countV 1024) ((decP2 bs).count 1024)
def decO (bs : List Int) : List TOut × PSt := outsP ((decI bs).2.countV 1024) ((decI bs).2.count 1024)
def decWs (bs : List Int) : List TIn × PSt := if decW bs then allW (decI bs).1 (decO bs).2 else ((decI bs).1, (decO bs).2)
def decT (bs : List Int) : TTx := ⟨IntKind.i32.wrap (ofLE ((⟨bs.take 65536, 0⟩ : PSt).takeB 4)), (decWs bs).1, (decO bs).1, ofLE ((decWs bs).2.takeB 4)⟩
def decP9 (bs : List Int) : PSt := (decWs bs).2.take 4
def decE1 (bs : List Int) : Int := if (decP9 bs).e = 8 ∧ 65536 < bs.length then 2 else (decP9 bs).e
/-- Why bytes begin with no transaction; 0: they do. -/
def decE (bs : List Int) : Int := if decE1 bs = 0 ∧ ((decWs bs).1.length = 0 ∨ (decO bs).1.length = 0 ∨ (decW bs = true ∧ (decT bs).hasWit = false)) then 2 else decE1 bs
def decN (bs : List Int) : Nat := min bs.length 65536 - (decP9 bs).bs.length
theorem PSt.take_bytes {p : PSt} (h : Bytes p.bs) (n : Nat) : Bytes (p.take n).bs := by
  unfold PSt.take
  split
  · split
    · exact h.drop n
    · exact h
  · exact h
theorem PSt.count_bytes {p : PSt} (h : Bytes p.bs) (n : Nat) : Bytes (p.count n).bs := by
  unfold PSt.count
  split
  · exact h
  · split
    · exact h
    · split
      · exact h
      · exact h.drop _
theorem PSt.text_bytes {p : PSt} (h : Bytes p.bs) : Bytes p.text.bs := PSt.take_bytes (PSt.count_bytes h 10000) _
theorem PSt.countV_le (p : PSt) (most : Nat) : p.countV most ≤ most := by
  unfold PSt.countV
  split
  · omega
  · split
    · omega
    · split <;> omega
theorem PSt.textB_bytes {p : PSt} (h : Bytes p.bs) : Bytes p.textB := PSt.takeB_bytes (PSt.count_bytes h _) _
theorem PSt.textB_len (p : PSt) : p.textB.length ≤ 10000 := Nat.le_trans (PSt.takeB_len _ _) (PSt.countV_le p 10000)
theorem le4_takeB {p : PSt} (h : Bytes p.bs) : 0 ≤ ofLE (p.takeB 4) ∧ ofLE (p.takeB 4) ≤ 4294967295 := le4 _ (PSt.takeB_bytes h 4) (PSt.takeB_len p 4)
theorem inP1_ok {p : PSt} (h : Bytes p.bs) : (inP1 p).1.Ok := by
  have h1 := PSt.take_bytes h 32
  have h2 := PSt.take_bytes h1 4
  have h3 : Bytes ((p.take 32).take 4).text.bs := PSt.take_bytes (PSt.count_bytes h2 10000) _
  refine ⟨zpad_length _ (PSt.takeB_len _ _), zpad_bytes _ (PSt.takeB_bytes h 32), (le4_takeB h1).1, (le4_takeB h1).2, (le4_takeB h3).1, (le4_takeB h3).2, ?_, (fun s hs => by cases hs)⟩
  show (strOfNums _).size ≤ maxLen
  rw [strOfNums_size]
  have := PSt.textB_len ((p.take 32).take 4)
  unfold maxLen
  omega
theorem inP1_bytes {p : PSt} (h : Bytes p.bs) : Bytes (inP1 p).2.bs := PSt.take_bytes (PSt.take_bytes (PSt.count_bytes (PSt.take_bytes (PSt.take_bytes h 32) 4) 10000) _) 4
theorem outP1_ok {p : PSt} (h : Bytes p.bs) : (outP1 p).1.Ok := by
  refine ⟨?_, ?_, ?_⟩
  · show -9223372036854775808 ≤ IntKind.i64.wrap _
    rw [IntKind.wrap_i64]; omega
  · show IntKind.i64.wrap _ ≤ 9223372036854775807
    rw [IntKind.wrap_i64]; omega
  · show (strOfNums _).size ≤ maxLen
    rw [strOfNums_size]
    have := PSt.textB_len (p.take 8)
    unfold maxLen
    omega
theorem outP1_bytes {p : PSt} (h : Bytes p.bs) : Bytes (outP1 p).2.bs := PSt.take_bytes (PSt.count_bytes (PSt.take_bytes h 8) 10000) _
end Go.Proofs.YtclkgflficlmiaaDoor
end

/-! ## TxPure -/
section
set_option maxRecDepth 100000
set_option linter.unusedVariables false
namespace Go.Proofs.YtclkgflficlmiaaDoor
open Go Go.RowKit
theorem PSt.take_app (a r : List Int) (n : Nat) (h : a.length = n) : (⟨a ++ r, 0⟩ : PSt).take n = ⟨r, 0⟩ := by
  subst h
  unfold PSt.take
  rw [if_pos rfl, if_pos (by simp), List.drop_left]
theorem PSt.takeB_app (a r : List Int) (n : Nat) (h : a.length = n) : (⟨a ++ r, 0⟩ : PSt).takeB n = a := by
  subst h
  unfold PSt.takeB
  rw [if_pos ⟨rfl, by simp⟩, List.take_left]
theorem compF_form (x : Nat) (hx : x < 18446744073709551616) : (x < 253 ∧ compF x = [(x : Int)]) ∨ ∃ b s, compF x = b :: leF s x ∧ ¬ b < 253 ∧ b ≤ 255 ∧ sizF b = s ∧ x < 256 ^ s := by
  by_cases h1 : x < 253
  · exact .inl ⟨h1, by unfold compF; rw [if_pos h1]⟩
  · refine .inr ?_
    by_cases h2 : x ≤ 65535
    · exact ⟨253, 2, by unfold compF; rw [if_neg h1, if_pos h2], by decide, by decide, rfl, by omega⟩
    · by_cases h3 : x ≤ 4294967295
      · exact ⟨254, 4, by unfold compF; rw [if_neg h1, if_neg h2, if_pos h3], by decide, by decide, rfl, by omega⟩
      · exact ⟨255, 8, by unfold compF; rw [if_neg h1, if_neg h2, if_neg h3], by decide, by decide, rfl, by omega⟩
theorem expF_comp (x : Nat) (hx : x < 18446744073709551616) (r : List Int) : expF (compF x ++ r) = ((x : Int), (compF x).length, 0) := by
  rcases compF_form x hx with ⟨h1, hc⟩ | ⟨b, s, hc, hb, _, hs, hxs⟩
  · rw [hc]
    show (if (x : Int) < 253 then _ else _) = _
    rw [if_pos (by omega)]
    rfl
  · have hl : (leF s x ++ r).take s = leF s x := by
      have := List.take_left (l₁ := leF s x) (l₂ := r)
      rwa [leF_length] at this
    have ho : ofLE (leF s x) = (x : Int) := by rw [ofLE_leF, Nat.mod_eq_of_lt hxs]
    have hlen : (compF x).length = 1 + s := by rw [hc, List.length_cons, leF_length, Nat.add_comm]
    have e1 : expF (b :: (leF s x ++ r)) = ((x : Int), 1 + s, 0) := by
      simp only [expF, hs]
      rw [if_neg hb, if_neg (by rw [List.length_append, leF_length]; omega), hl, ho, Int.toNat_natCast, if_neg (by rw [hlen]; exact fun h => h rfl)]
    rw [hlen, hc, List.cons_append, e1]
theorem PSt.countV_app (x m : Nat) (r : List Int) (h : x ≤ m) (hm : m ≤ 100000) : (⟨compF x ++ r, 0⟩ : PSt).countV m = x := by
  unfold PSt.countV
  rw [if_neg (by simp), expF_comp x (by omega)]
  simp only
  rw [if_neg (by simp), if_neg (by omega), Int.toNat_natCast]
theorem PSt.count_app (x m : Nat) (r : List Int) (h : x ≤ m) (hm : m ≤ 100000) : (⟨compF x ++ r, 0⟩ : PSt).count m = ⟨r, 0⟩ := by
  unfold PSt.count
  rw [if_neg (by simp), expF_comp x (by omega)]
  simp only
  rw [if_neg (by simp), if_neg (by omega), List.drop_left]
theorem PSt.text_app (s : ByteArray) (r : List Int) (h : s.size ≤ 10000) : (⟨textF s ++ r, 0⟩ : PSt).text = ⟨r, 0⟩ := by
  unfold PSt.text textF
  rw [List.append_assoc, PSt.countV_app _ _ _ h (by decide), PSt.count_app _ _ _ h (by decide), PSt.take_app _ _ _ (bytesOf_length s)]
theorem PSt.textB_app (s : ByteArray) (r : List Int) (h : s.size ≤ 10000) : (⟨textF s ++ r, 0⟩ : PSt).textB = bytesOf s := by
  unfold PSt.textB textF
  rw [List.append_assoc, PSt.countV_app _ _ _ h (by decide), PSt.count_app _ _ _ h (by decide), PSt.takeB_app _ _ _ (bytesOf_length s)]
/-- A loop that reads so many things, and stops at an error. -/
def loopP {α : Type} (f : PSt → α × PSt) : Nat → PSt → List α × PSt
  | 0, p => ([], p)
  | n + 1, p => if p.e ≠ 0 then ([], p) else ((f p).1 :: (loopP f n (f p).2).1, (loopP f n (f p).2).2)
theorem insP_eq : ∀ (n : Nat) (p : PSt), insP n p = loopP inP1 n p
  | 0, _ => rfl
  | n + 1, p => by rw [insP, loopP, insP_eq n]
theorem outsP_eq : ∀ (n : Nat) (p : PSt), outsP n p = loopP outP1 n p
  | 0, _ => rfl
  | n + 1, p => by rw [outsP, loopP, outsP_eq n]
def witF (p : PSt) : ByteArray × PSt := (strOfNums p.textB, p.text)
theorem witsP_eq : ∀ (n : Nat) (p : PSt), witsP n p = loopP witF n p
  | 0, _ => rfl
  | n + 1, p => by rw [witsP, loopP, witsP_eq n]; rfl
theorem loopP_bad {α : Type} (f : PSt → α × PSt) (n : Nat) (p : PSt) (h : p.e ≠ 0) : loopP f n p = ([], p) := by
  cases n with
  | zero => rfl
  | succ n => rw [loopP, if_pos h]
theorem loopP_lay {α : Type} (f : PSt → α × PSt) (lay : α → List Int) (g : α → α) (r : List Int) : ∀ (xs : List α), (∀ x ∈ xs, ∀ r, f ⟨lay x ++ r, 0⟩ = (g x, ⟨r, 0⟩)) → loopP f xs.length ⟨xs.flatMap lay ++ r, 0⟩ = (xs.map g, ⟨r, 0⟩)
  | [], _ => rfl
  | x :: xs, h => by
    rw [List.length_cons, loopP, if_neg (by simp), List.flatMap_cons, List.append_assoc, h x (by simp)]
    simp only
    rw [loopP_lay f lay g r xs (fun y hy => h y (List.mem_cons_of_mem _ hy))]
    rfl
def TIn.bare (x : TIn) : TIn := { x with wit := [] }
structure TTx.Ok (t : TTx) : Prop where
  v0 : -2147483648 ≤ t.ver
  v1 : t.ver ≤ 2147483647
  l0 : 0 ≤ t.lock
  l1 : t.lock ≤ 4294967295
  ins : ∀ x ∈ t.ins, x.Ok
  outs : ∀ x ∈ t.outs, x.Ok
theorem ofLE_leF4 (x : Int) (h0 : 0 ≤ x) (h1 : x ≤ 4294967295) : ofLE (leF 4 x.toNat) = x := by
  rw [ofLE_leF, Nat.mod_eq_of_lt (by omega)]
  omega
theorem zpad_full (xs : List Int) (h : xs.length = 32) : zpad xs = xs := by simp [zpad, h]
theorem inP1_lay (x : TIn) (hx : x.Ok) (hs : x.script.size ≤ 10000) (r : List Int) : inP1 ⟨layIn x ++ r, 0⟩ = (x.bare, ⟨r, 0⟩) := by
  have e : layIn x ++ r = x.id ++ (leF 4 x.out.toNat ++ (textF x.script ++ (leF 4 x.seq.toNat ++ r))) := by simp only [layIn, List.append_assoc]
  rw [e]
  unfold inP1
  rw [PSt.take_app _ _ _ hx.idl, PSt.takeB_app _ _ _ hx.idl, PSt.take_app _ _ 4 (leF_length 4 _), PSt.takeB_app _ _ 4 (leF_length 4 _), PSt.text_app _ _ hs, PSt.textB_app _ _ hs, PSt.take_app _ _ 4 (leF_length 4 _), PSt.takeB_app _ _ 4 (leF_length 4 _), zpad_full _ hx.idl, ofLE_leF4 _ hx.o0 hx.o1, ofLE_leF4 _ hx.s0 hx.s1, strOf_bytesOf]
  rfl
theorem coins_back (c : Int) (h0 : -9223372036854775808 ≤ c) (h1 : c ≤ 9223372036854775807) : IntKind.i64.wrap (ofLE (leF 8 (c % 18446744073709551616).toNat)) = c := by
  rw [ofLE_leF, Nat.mod_eq_of_lt (by omega), IntKind.wrap_i64]
  omega
theorem outP1_lay (x : TOut) (hx : x.Ok) (hs : x.script.size ≤ 10000) (r : List Int) : outP1 ⟨layOut x ++ r, 0⟩ = (x, ⟨r, 0⟩) := by
  have e : layOut x ++ r = leF 8 (x.coins % 18446744073709551616).toNat ++ (textF x.script ++ r) := by simp only [layOut, List.append_assoc]
  rw [e]
  unfold outP1
  rw [PSt.take_app _ _ 8 (leF_length 8 _), PSt.takeB_app _ _ 8 (leF_length 8 _), PSt.text_app _ _ hs, PSt.textB_app _ _ hs, coins_back _ hx.c0 hx.c1, strOf_bytesOf]
theorem witF_lay (s : ByteArray) (hs : s.size ≤ 10000) (r : List Int) : witF ⟨textF s ++ r, 0⟩ = (s, ⟨r, 0⟩) := by
  unfold witF
  rw [PSt.text_app _ _ hs, PSt.textB_app _ _ hs, strOf_bytesOf]
theorem witP1_lay (x : TIn) (hl : x.wit.length ≤ 100) (hs : ∀ s ∈ x.wit, s.size ≤ 10000) (r : List Int) : witP1 ⟨layWit x ++ r, 0⟩ = (x.wit, ⟨r, 0⟩) := by
  unfold witP1 layWit
  rw [List.append_assoc, PSt.countV_app _ _ _ hl (by decide), PSt.count_app _ _ _ hl (by decide), witsP_eq, loopP_lay witF textF id r x.wit (fun s h r => witF_lay s (hs s h) r), List.map_id]
theorem allW_lay (r : List Int) : ∀ (xs : List TIn), (∀ x ∈ xs, x.wit.length ≤ 100 ∧ ∀ s ∈ x.wit, s.size ≤ 10000) → allW (xs.map TIn.bare) ⟨xs.flatMap layWit ++ r, 0⟩ = (xs, ⟨r, 0⟩)
  | [], _ => rfl
  | x :: xs, h => by
    rw [List.map_cons, allW, List.flatMap_cons, List.append_assoc, witP1_lay x (h x (by simp)).1 (h x (by simp)).2]
    simp only
    rw [allW_lay r xs (fun y hy => h y (List.mem_cons_of_mem _ hy))]
    rfl
theorem bare_all : ∀ (xs : List TIn), (xs.any fun i => decide (0 < i.wit.length)) = false → xs.map TIn.bare = xs
  | [], _ => rfl
  | x :: xs, h => by
    rw [List.any_cons, Bool.or_eq_false_iff, decide_eq_false_iff_not] at h
    rw [List.map_cons, bare_all xs h.2]
    have hw : x.wit = [] := List.eq_nil_of_length_eq_zero (by omega)
    congr 1
    cases x
    simp only [TIn.bare] at hw ⊢
    rw [hw]
/-! ### the run behind the flag -/
def rI (p : PSt) : List TIn × PSt := insP (p.countV 1024) (p.count 1024)
def rO (p : PSt) : List TOut × PSt := outsP ((rI p).2.countV 1024) ((rI p).2.count 1024)
def rW (w : Bool) (p : PSt) : List TIn × PSt := if w then allW (rI p).1 (rO p).2 else ((rI p).1, (rO p).2)
def r9 (w : Bool) (p : PSt) : PSt := (rW w p).2.take 4
theorem decP9_eq (bs : List Int) : decP9 bs = r9 (decW bs) (decP2 bs) := rfl
/-- The bytes behind the version and the flag. -/
def tailF (t : TTx) (w : Bool) (r : List Int) : List Int := compF t.ins.length ++ (t.ins.flatMap layIn ++ (compF t.outs.length ++ (t.outs.flatMap layOut ++ ((if w then t.ins.flatMap layWit else []) ++ (leF 4 t.lock.toNat ++ r)))))
theorem layF_tail (t : TTx) (w : Bool) (r : List Int) : layF t w ++ r = leF 4 (t.ver % 4294967296).toNat ++ ((if w then [0, 1] else []) ++ tailF t w r) := by
  simp only [layF, tailF, List.append_assoc]
section
variable {t : TTx} (hok : t.Ok) (hb : Bounds t)
include hok hb
theorem rI_lay (w : Bool) (r : List Int) : rI ⟨tailF t w r, 0⟩ = (t.ins.map TIn.bare, ⟨compF t.outs.length ++ (t.outs.flatMap layOut ++ ((if w then t.ins.flatMap layWit else []) ++ (leF 4 t.lock.toNat ++ r))), 0⟩) := by
  unfold rI tailF
  rw [PSt.countV_app _ _ _ hb.i1 (by decide), PSt.count_app _ _ _ hb.i1 (by decide), insP_eq]
  exact loopP_lay inP1 layIn TIn.bare _ t.ins (fun x hx r => inP1_lay x (hok.ins x hx) (hb.ins x hx).2.1 r)
theorem rO_lay (w : Bool) (r : List Int) : rO ⟨tailF t w r, 0⟩ = (t.outs, ⟨(if w then t.ins.flatMap layWit else []) ++ (leF 4 t.lock.toNat ++ r), 0⟩) := by
  unfold rO
  rw [rI_lay hok hb w r]
  simp only
  rw [PSt.countV_app _ _ _ hb.o1 (by decide), PSt.count_app _ _ _ hb.o1 (by decide), outsP_eq]
  have := loopP_lay outP1 layOut id ((if w then t.ins.flatMap layWit else []) ++ (leF 4 t.lock.toNat ++ r)) t.outs (fun x hx r => outP1_lay x (hok.outs x hx) (hb.outs x hx) r)
  rwa [List.map_id] at this
theorem rW_lay (r : List Int) : rW t.hasWit ⟨tailF t t.hasWit r, 0⟩ = (t.ins, ⟨leF 4 t.lock.toNat ++ r, 0⟩) := by
  unfold rW
  rw [rI_lay hok hb, rO_lay hok hb]
  by_cases h : t.hasWit = true
  · rw [h]
    simp only [if_true]
    exact allW_lay _ t.ins (fun x hx => ⟨(hb.ins x hx).1, (hb.ins x hx).2.2⟩)
  · rw [Bool.not_eq_true] at h
    rw [h]
    simp only [Bool.false_eq_true, if_false, List.nil_append]
    rw [bare_all t.ins h]
end
theorem take_lay (bs more : List Int) (h : bs.length ≤ 65536) : (bs ++ more).take 65536 = bs ++ more.take (65536 - bs.length) := by
  rw [List.take_append, List.take_of_length_le h]
theorem compF_head (n : Nat) (h0 : 0 < n) (h1 : n ≤ 1024) (r : List Int) : rd (compF n ++ r) 0 ≠ 0 := by
  rcases compF_form n (by omega) with ⟨h, hc⟩ | ⟨b, s, hc, hb, _⟩
  · rw [hc]
    show (n : Int) ≠ 0
    omega
  · rw [hc]
    show b ≠ 0
    omega
/-- Read behind the version: where the run begins, and whether there are witnesses. -/
theorem dec_start {t : TTx} (hok : t.Ok) (hb : Bounds t) (hl : (encF t).length ≤ 65536) (more : List Int) :
    decW (encF t ++ more) = t.hasWit ∧ decP2 (encF t ++ more) = ⟨tailF t t.hasWit (more.take (65536 - (encF t).length)), 0⟩ ∧ IntKind.i32.wrap (ofLE ((⟨(encF t ++ more).take 65536, 0⟩ : PSt).takeB 4)) = t.ver := by
  have h1 : (⟨(encF t ++ more).take 65536, 0⟩ : PSt).take 4 = ⟨(if t.hasWit then [0, 1] else []) ++ tailF t t.hasWit (more.take (65536 - (encF t).length)), 0⟩ := by
    rw [take_lay _ _ hl, encF, layF_tail, PSt.take_app _ _ 4 (leF_length 4 _)]
  have h3 : (⟨(encF t ++ more).take 65536, 0⟩ : PSt).takeB 4 = leF 4 (t.ver % 4294967296).toNat := by
    rw [take_lay _ _ hl, encF, layF_tail, PSt.takeB_app _ _ 4 (leF_length 4 _)]
  have hw : decW (encF t ++ more) = t.hasWit := by
    unfold decW
    rw [h1]
    by_cases h : t.hasWit = true
    · rw [h]
      exact decide_eq_true ⟨rfl, by simp, rfl, rfl⟩
    · rw [Bool.not_eq_true] at h
      rw [h]
      simp only [Bool.false_eq_true, if_false, List.nil_append]
      refine decide_eq_false (fun hh => ?_)
      exact compF_head _ hb.i0 hb.i1 _ hh.2.2.1
  refine ⟨hw, ?_, ?_⟩
  · unfold decP2
    rw [hw, h1]
    by_cases h : t.hasWit = true
    · rw [h]
      simp only [if_true]
      exact PSt.take_app [0, 1] _ 2 rfl
    · rw [Bool.not_eq_true] at h
      rw [h]
      simp only [Bool.false_eq_true, if_false, List.nil_append]
  · have := hok.v0
    have := hok.v1
    rw [h3, ofLE_leF, Nat.mod_eq_of_lt (by omega), IntKind.wrap_i32]
    omega
/-- A transaction's bytes, whatever stands behind them: read, they are it. -/
theorem dec_enc {t : TTx} (hok : t.Ok) (hb : Bounds t) (hl : (encF t).length ≤ 65536) (more : List Int) :
    decE (encF t ++ more) = 0 ∧ decN (encF t ++ more) = (encF t).length ∧ decT (encF t ++ more) = t ∧ decP9 (encF t ++ more) = ⟨more.take (65536 - (encF t).length), 0⟩ := by
  obtain ⟨hw, h2, h3⟩ := dec_start hok hb hl more
  have hI : decI (encF t ++ more) = rI (decP2 (encF t ++ more)) := rfl
  have hO : decO (encF t ++ more) = rO (decP2 (encF t ++ more)) := rfl
  have hW : decWs (encF t ++ more) = rW (decW (encF t ++ more)) (decP2 (encF t ++ more)) := rfl
  rw [h2] at hI hO
  rw [h2, hw, rW_lay hok hb] at hW
  rw [rO_lay hok hb] at hO
  have h9 : decP9 (encF t ++ more) = ⟨more.take (65536 - (encF t).length), 0⟩ := by
    unfold decP9
    rw [hW]
    exact PSt.take_app _ _ 4 (leF_length 4 _)
  have hT : decT (encF t ++ more) = t := by
    unfold decT
    rw [h3, hW, hO]
    simp only
    rw [PSt.takeB_app _ _ 4 (leF_length 4 _), ofLE_leF4 _ hok.l0 hok.l1]
  refine ⟨?_, ?_, hT, h9⟩
  · have h1 : decE1 (encF t ++ more) = 0 := by
      unfold decE1
      rw [h9]
      rw [if_neg (fun h => by cases h.1)]
    unfold decE
    rw [h1, hW, hO, hw, hT, if_neg]
    have := hb.i0
    have := hb.o0
    rintro ⟨_, h | h | ⟨h, h'⟩⟩
    · simp only at h; omega
    · simp only at h; omega
    · rw [h] at h'; cases h'
  · unfold decN
    rw [h9, List.length_take, List.length_append]
    omega
end Go.Proofs.YtclkgflficlmiaaDoor
end

/-! ## TxCutP -/
section
set_option maxRecDepth 100000
set_option linter.unusedVariables false
namespace Go.Proofs.YtclkgflficlmiaaDoor
open Go Go.RowKit
theorem PSt.take_e {p : PSt} {n : Nat} (h : (p.take n).e = 0) : p.e = 0 ∧ n ≤ p.bs.length ∧ p.take n = ⟨p.bs.drop n, 0⟩ := by
  unfold PSt.take at h ⊢
  by_cases h1 : p.e = 0
  · rw [if_pos h1] at h ⊢
    by_cases h2 : n ≤ p.bs.length
    · rw [if_pos h2] at h ⊢
      exact ⟨h1, h2, rfl⟩
    · rw [if_neg h2] at h
      cases h
  · rw [if_neg h1] at h
    exact absurd h h1
theorem PSt.take_bad {p : PSt} (h : p.e ≠ 0) (n : Nat) : p.take n = p := by unfold PSt.take; rw [if_neg h]
theorem PSt.count_bad {p : PSt} (h : p.e ≠ 0) (m : Nat) : p.count m = p := by unfold PSt.count; rw [if_pos h]
theorem PSt.text_bad {p : PSt} (h : p.e ≠ 0) : p.text = p := by
  unfold PSt.text
  rw [PSt.count_bad h, PSt.take_bad h]
theorem PSt.count_e {p : PSt} {m : Nat} (h : (p.count m).e = 0) : p.e = 0 ∧ ∃ x k, expF p.bs = (x, k, 0) ∧ x ≤ (m : Int) ∧ p.countV m = x.toNat ∧ p.count m = ⟨p.bs.drop k, 0⟩ := by
  obtain ⟨x, k, e, hx⟩ : ∃ x k e, expF p.bs = (x, k, e) := ⟨_, _, _, rfl⟩
  by_cases h1 : p.e = 0
  · by_cases h2 : e = 0
    · subst h2
      have hC : p.count m = if (m : Int) < x then ⟨p.bs, 2⟩ else ⟨p.bs.drop k, 0⟩ := by unfold PSt.count; rw [hx]; simp [h1]
      have hV : p.countV m = if (m : Int) < x then 0 else x.toNat := by unfold PSt.countV; rw [hx]; simp [h1]
      by_cases h3 : (m : Int) < x
      · rw [hC, if_pos h3] at h; cases h
      · rw [hC, hV, if_neg h3, if_neg h3]
        exact ⟨h1, x, k, hx, by omega, rfl, rfl⟩
    · have hC : p.count m = ⟨p.bs, e⟩ := by unfold PSt.count; rw [hx]; simp [h1, h2]
      rw [hC] at h
      exact absurd h h2
  · have hC : p.count m = p := by unfold PSt.count; rw [if_pos h1]
    rw [hC] at h
    exact absurd h h1
theorem PSt.text_e {p : PSt} (h : p.text.e = 0) : (p.count 10000).e = 0 ∧ p.e = 0 := by
  have h1 := (PSt.take_e (p := p.count 10000) h).1
  exact ⟨h1, (PSt.count_e h1).1⟩
/-- q has run the same way as p over bytes of which the last, c, are lacking; or it has come to their end. -/
def Cut (c : List Int) (p q : PSt) : Prop := q.e = 8 ∨ (q.e = 0 ∧ p.bs = q.bs ++ c)
theorem Cut.take {c : List Int} {p q : PSt} (h : Cut c p q) {n : Nat} (hp : (p.take n).e = 0) : Cut c (p.take n) (q.take n) := by
  obtain ⟨h0, hn, hT⟩ := PSt.take_e hp
  rcases h with h | ⟨h, hb⟩
  · left
    rw [PSt.take_bad (by omega)]
    exact h
  · rw [hT]
    unfold PSt.take
    rw [if_pos h]
    by_cases h2 : n ≤ q.bs.length
    · rw [if_pos h2]
      exact .inr ⟨rfl, by simp only; rw [hb, List.drop_append_of_le_length h2]⟩
    · rw [if_neg h2]
      exact .inl rfl
theorem expF_pre {a c : List Int} {x : Int} {k : Nat} (h : expF (a ++ c) = (x, k, 0)) : (expF a = (x, k, 0) ∧ k ≤ a.length) ∨ (expF a).2.2 = 8 := by
  rcases a with _ | ⟨b, a⟩
  · exact .inr rfl
  · rw [List.cons_append] at h
    simp only [expF] at h ⊢
    by_cases h1 : b < 253
    · rw [if_pos h1] at h ⊢
      simp only [Prod.mk.injEq] at h
      exact .inl ⟨by rw [← h.1, ← h.2.1], by rw [← h.2.1, List.length_cons]; omega⟩
    · rw [if_neg h1] at h ⊢
      by_cases h2 : a.length < sizF b
      · rw [if_pos h2]
        exact .inr rfl
      · have ht : (a ++ c).take (sizF b) = a.take (sizF b) := List.take_append_of_le_length (by omega)
        rw [if_neg (by rw [List.length_append]; omega), ht] at h
        rw [if_neg h2]
        refine .inl ⟨h, ?_⟩
        split at h
        · simp at h
        · simp only [Prod.mk.injEq] at h
          rw [← h.2.1, List.length_cons]
          omega
theorem Cut.count {c : List Int} {p q : PSt} (h : Cut c p q) {m : Nat} (hp : (p.count m).e = 0) : Cut c (p.count m) (q.count m) ∧ ((q.count m).e = 0 → q.countV m = p.countV m) := by
  obtain ⟨h0, x, k, hx, hm, hV, hC⟩ := PSt.count_e hp
  rcases h with h | ⟨h, hb⟩
  · have : (q.count m).e = 8 := by rw [PSt.count_bad (by omega)]; exact h
    exact ⟨.inl this, fun e => by omega⟩
  · rw [hb] at hx
    rcases expF_pre hx with ⟨hq, hk⟩ | hq
    · have h1 : q.count m = ⟨q.bs.drop k, 0⟩ := by
        unfold PSt.count
        rw [if_neg (by simp [h]), hq]
        simp only
        rw [if_neg (by simp), if_neg (by omega)]
      have h2 : q.countV m = x.toNat := by
        unfold PSt.countV
        rw [if_neg (by simp [h]), hq]
        simp only
        rw [if_neg (by simp), if_neg (by omega)]
      rw [h1, hC, h2, hV]
      exact ⟨.inr ⟨rfl, by simp only; rw [hb, List.drop_append_of_le_length hk]⟩, fun _ => rfl⟩
    · have h1 : q.count m = ⟨q.bs, 8⟩ := by
        unfold PSt.count
        rw [if_neg (by simp [h]), if_pos (by rw [hq]; decide), hq]
      rw [h1]
      exact ⟨.inl rfl, fun e => by cases e⟩
theorem Cut.text {c : List Int} {p q : PSt} (h : Cut c p q) (hp : p.text.e = 0) : Cut c p.text q.text := by
  have h1 := (PSt.text_e hp).1
  obtain ⟨h2, h3⟩ := h.count h1
  by_cases h4 : (q.count 10000).e = 0
  · unfold PSt.text
    rw [h3 h4]
    exact h2.take hp
  · left
    unfold PSt.text
    rw [PSt.take_bad h4]
    rcases h2 with h2 | h2
    · exact h2
    · exact absurd h2.1 h4
theorem Cut.bad {c : List Int} {p q : PSt} (h : Cut c p q) (hq : q.e ≠ 0) : q.e = 8 := by
  rcases h with h | h
  · exact h
  · exact absurd h.1 hq
theorem Cut.loop {α : Type} (f : PSt → α × PSt) (H1 : ∀ p, (f p).2.e = 0 → p.e = 0) (c : List Int) (H2 : ∀ p q, Cut c p q → (f p).2.e = 0 → Cut c (f p).2 (f q).2) : ∀ (n : Nat) (p q : PSt) (m : Nat), Cut c p q → (loopP f n p).2.e = 0 → (q.e = 0 → m = n) →
    Cut c (loopP f n p).2 (loopP f m q).2
  | n, p, q, m, h, hp, hm => by
    by_cases hq : q.e = 0
    · have := hm hq
      subst this
      cases m with
      | zero => exact h
      | succ m =>
        rw [loopP] at hp ⊢
        by_cases h1 : p.e = 0
        · rw [if_neg (by simp [h1])] at hp ⊢
          rw [loopP, if_neg (by simp [hq])]
          have h2 : (f p).2.e = 0 := by
            by_cases h3 : (f p).2.e = 0
            · exact h3
            · simp only at hp
              rw [loopP_bad f m _ h3] at hp
              exact hp
          exact Cut.loop f H1 c H2 m (f p).2 (f q).2 m (H2 p q h h2) hp (fun _ => rfl)
        · rw [if_pos h1] at hp
          exact absurd hp h1
    · left
      rw [loopP_bad f m q hq]
      exact h.bad hq
theorem loopP_e {α : Type} (f : PSt → α × PSt) (n : Nat) (p : PSt) (h : (loopP f n p).2.e = 0) : p.e = 0 := by
  by_cases h1 : p.e = 0
  · exact h1
  · rw [loopP_bad f n p h1] at h
    exact h
theorem loopP_len {α : Type} (f : PSt → α × PSt) : ∀ (n : Nat) (p : PSt), (loopP f n p).2.e = 0 → (loopP f n p).1.length = n
  | 0, _, _ => rfl
  | n + 1, p, h => by
    rw [loopP] at h ⊢
    by_cases h1 : p.e = 0
    · rw [if_neg (by simp [h1])] at h ⊢
      simp only [List.length_cons]
      rw [loopP_len f n _ h]
    · rw [if_pos h1] at h
      exact absurd h h1
theorem inP1_e (p : PSt) (h : (inP1 p).2.e = 0) : (((p.take 32).take 4).text).e = 0 ∧ ((p.take 32).take 4).e = 0 ∧ (p.take 32).e = 0 ∧ p.e = 0 := by
  have h1 := (PSt.take_e (p := ((p.take 32).take 4).text) h).1
  have h2 := (PSt.text_e h1).2
  have h3 := (PSt.take_e h2).1
  exact ⟨h1, h2, h3, (PSt.take_e h3).1⟩
theorem inP1_cut (c : List Int) (p q : PSt) (h : Cut c p q) (hp : (inP1 p).2.e = 0) : Cut c (inP1 p).2 (inP1 q).2 := by
  obtain ⟨h1, h2, h3, h4⟩ := inP1_e p hp
  exact Cut.take (Cut.text (Cut.take (Cut.take h h3) h2) h1) hp
theorem outP1_e (p : PSt) (h : (outP1 p).2.e = 0) : (p.take 8).e = 0 ∧ p.e = 0 := by
  have h2 := (PSt.text_e (p := p.take 8) h).2
  exact ⟨h2, (PSt.take_e h2).1⟩
theorem outP1_cut (c : List Int) (p q : PSt) (h : Cut c p q) (hp : (outP1 p).2.e = 0) : Cut c (outP1 p).2 (outP1 q).2 :=
  Cut.text (Cut.take h (outP1_e p hp).1) hp
theorem witF_cut (c : List Int) (p q : PSt) (h : Cut c p q) (hp : (witF p).2.e = 0) : Cut c (witF p).2 (witF q).2 := Cut.text h hp
theorem witP1_e (p : PSt) (h : (witP1 p).2.e = 0) : (p.count 100).e = 0 ∧ p.e = 0 := by
  unfold witP1 at h
  rw [witsP_eq] at h
  have := loopP_e _ _ _ h
  exact ⟨this, (PSt.count_e this).1⟩
theorem witP1_cut (c : List Int) (p q : PSt) (h : Cut c p q) (hp : (witP1 p).2.e = 0) : Cut c (witP1 p).2 (witP1 q).2 := by
  have h1 := (witP1_e p hp).1
  obtain ⟨h2, h3⟩ := h.count h1
  unfold witP1 at hp ⊢
  rw [witsP_eq] at hp ⊢
  rw [witsP_eq]
  exact Cut.loop witF (fun p h => (PSt.text_e h).2) c (witF_cut c) _ _ _ _ h2 hp h3
theorem witP1_bad (p : PSt) (h : p.e ≠ 0) : (witP1 p).2 = p := by
  unfold witP1
  rw [PSt.count_bad h, witsP_eq, loopP_bad _ _ _ h]
theorem allW_bad : ∀ (xs : List TIn) (p : PSt), p.e ≠ 0 → (allW xs p).2 = p
  | [], _, _ => rfl
  | x :: xs, p, h => by
    rw [allW]
    simp only
    rw [witP1_bad p h, allW_bad xs p h]
theorem allW_cut (c : List Int) : ∀ (xs ys : List TIn) (p q : PSt), (q.e = 0 → ys.length = xs.length) → Cut c p q → (allW xs p).2.e = 0 → Cut c (allW xs p).2 (allW ys q).2
  | xs, ys, p, q, hl, h, hp => by
    by_cases hq : q.e = 0
    · have hl := hl hq
      cases xs with
      | nil =>
        obtain rfl := List.eq_nil_of_length_eq_zero hl
        exact h
      | cons x xs =>
        cases ys with
        | nil => simp at hl
        | cons y ys =>
          rw [allW] at hp ⊢
          rw [allW]
          have h2 : (witP1 p).2.e = 0 := by
            by_cases h3 : (witP1 p).2.e = 0
            · exact h3
            · simp only at hp
              rw [allW_bad xs _ h3] at hp
              exact hp
          exact allW_cut c xs ys (witP1 p).2 (witP1 q).2 (fun _ => by simpa using hl) (witP1_cut c p q h h2) hp
    · left
      rw [allW_bad ys q hq]
      exact h.bad hq
theorem rI_bad (p : PSt) (h : p.e ≠ 0) : (rI p).2 = p := by
  unfold rI
  rw [PSt.count_bad h, insP_eq, loopP_bad _ _ _ h]
theorem rO_bad (p : PSt) (h : (rI p).2.e ≠ 0) : (rO p).2 = (rI p).2 := by
  unfold rO
  rw [PSt.count_bad h, outsP_eq, loopP_bad _ _ _ h]
theorem rW_bad (w : Bool) (p : PSt) (h : (rO p).2.e ≠ 0) : (rW w p).2 = (rO p).2 := by
  unfold rW
  cases w
  · rfl
  · exact allW_bad _ _ h
theorem r9_e (w : Bool) (p : PSt) (h : (r9 w p).e = 0) : (rW w p).2.e = 0 ∧ (rO p).2.e = 0 ∧ (rI p).2.e = 0 ∧ (p.count 1024).e = 0 ∧ ((rI p).2.count 1024).e = 0 := by
  have h1 := (PSt.take_e (p := (rW w p).2) h).1
  have h2 : (rO p).2.e = 0 := by
    by_cases h3 : (rO p).2.e = 0
    · exact h3
    · rw [rW_bad w p h3] at h1; exact h1
  have h3 : (rI p).2.e = 0 := by
    by_cases h4 : (rI p).2.e = 0
    · exact h4
    · rw [rO_bad p h4] at h2; exact h2
  refine ⟨h1, h2, h3, ?_, ?_⟩
  · unfold rI at h3
    rw [insP_eq] at h3
    exact loopP_e _ _ _ h3
  · unfold rO at h2
    rw [outsP_eq] at h2
    exact loopP_e _ _ _ h2
theorem Cut.run {c : List Int} {p q : PSt} (h : Cut c p q) (w : Bool) (hp : (r9 w p).e = 0) : Cut c (r9 w p) (r9 w q) := by
  obtain ⟨h1, h2, h3, h4, h5⟩ := r9_e w p hp
  obtain ⟨a1, a2⟩ := h.count h4
  have hI : Cut c (rI p).2 (rI q).2 := by
    unfold rI at h3 ⊢
    rw [insP_eq] at h3 ⊢
    rw [insP_eq]
    exact Cut.loop inP1 (fun p h => (inP1_e p h).2.2.2) c (inP1_cut c) _ _ _ _ a1 h3 a2
  obtain ⟨b1, b2⟩ := hI.count h5
  have hO : Cut c (rO p).2 (rO q).2 := by
    unfold rO at h2 ⊢
    rw [outsP_eq] at h2 ⊢
    rw [outsP_eq]
    exact Cut.loop outP1 (fun p h => (outP1_e p h).2) c (outP1_cut c) _ _ _ _ b1 h2 b2
  refine Cut.take (p := (rW w p).2) (q := (rW w q).2) ?_ hp
  cases w
  · exact hO
  · refine allW_cut c (rI p).1 (rI q).1 _ _ (fun he => ?_) hO h1
    have e1 : (rI q).2.e = 0 := by
      by_cases h6 : (rI q).2.e = 0
      · exact h6
      · rw [rO_bad q h6] at he; exact he
    have e2 : (q.count 1024).e = 0 := by
      unfold rI at e1
      rw [insP_eq] at e1
      exact loopP_e _ _ _ e1
    have l1 : (rI p).1.length = p.countV 1024 := by
      unfold rI at h3 ⊢
      rw [insP_eq] at h3 ⊢
      exact loopP_len _ _ _ h3
    have l2 : (rI q).1.length = q.countV 1024 := by
      unfold rI at e1 ⊢
      rw [insP_eq] at e1 ⊢
      exact loopP_len _ _ _ e1
    rw [l1, l2, a2 e2]
theorem r9_bad (w : Bool) (p : PSt) (h : p.e ≠ 0) : r9 w p = p := by
  have h1 := rI_bad p h
  have h2 := rO_bad p (by rw [h1]; exact h)
  have h3 := rW_bad w p (by rw [h2, h1]; exact h)
  unfold r9
  rw [h3, h2, h1, PSt.take_bad h]
/-- Cut short at any length: too few bytes. -/
theorem dec_cut {t : TTx} (hok : t.Ok) (hb : Bounds t) (hl : (encF t).length ≤ 65536) (n : Nat) (hn : n < (encF t).length) : decE ((encF t).take n) = 8 := by
  have hfull := (dec_enc hok hb hl []).2.2.2
  rw [List.append_nil] at hfull
  have hc : (encF t).drop n ≠ [] := by
    intro h
    have := congrArg List.length h
    rw [List.length_drop, List.length_nil] at this
    omega
  have hq0 : (encF t).take 65536 = encF t := List.take_of_length_le hl
  have hq1 : ((encF t).take n).take 65536 = (encF t).take n := List.take_of_length_le (by rw [List.length_take]; omega)
  have hC0 : Cut ((encF t).drop n) (⟨encF t, 0⟩ : PSt) ⟨(encF t).take n, 0⟩ := .inr ⟨rfl, (List.take_append_drop _ _).symm⟩
  have h9 : (decP9 ((encF t).take n)).e = 8 := by
    rw [decP9_eq] at hfull ⊢
    have hr : (r9 (decW (encF t)) (decP2 (encF t))).e = 0 := by rw [hfull]
    have fin : ∀ (w : Bool) (q : PSt), w = decW (encF t) → Cut ((encF t).drop n) (decP2 (encF t)) q → (r9 w q).e = 8 := by
      intro w q hw hq
      subst hw
      rcases hq.run _ hr with h | ⟨h, h'⟩
      · exact h
      · rw [hfull] at h'
        simp only [List.take_nil] at h'
        exact absurd (List.append_eq_nil_iff.1 h'.symm).2 hc
    obtain ⟨p1, hp1⟩ : ∃ p1, (⟨encF t, 0⟩ : PSt).take 4 = p1 := ⟨_, rfl⟩
    obtain ⟨q1, hq1'⟩ : ∃ q1, (⟨(encF t).take n, 0⟩ : PSt).take 4 = q1 := ⟨_, rfl⟩
    have hDp : decP2 (encF t) = if decW (encF t) then p1.take 2 else p1 := by unfold decP2; rw [hq0, hp1]
    have hDq : decP2 ((encF t).take n) = if decW ((encF t).take n) then q1.take 2 else q1 := by unfold decP2; rw [hq1, hq1']
    have hWp : decW (encF t) = decide (p1.e = 0 ∧ 2 ≤ p1.bs.length ∧ rd p1.bs 0 = 0 ∧ rd p1.bs 1 = 1) := by unfold decW; rw [hq0, hp1]
    have hWq : decW ((encF t).take n) = decide (q1.e = 0 ∧ 2 ≤ q1.bs.length ∧ rd q1.bs 0 = 0 ∧ rd q1.bs 1 = 1) := by unfold decW; rw [hq1, hq1']
    have hp2e : (decP2 (encF t)).e = 0 := by
      by_cases h : (decP2 (encF t)).e = 0
      · exact h
      · rw [r9_bad _ _ h] at hr; exact hr
    have hp1e : p1.e = 0 := by
      rw [hDp] at hp2e
      split at hp2e
      · exact (PSt.take_e hp2e).1
      · exact hp2e
    have hC1 : Cut ((encF t).drop n) p1 q1 := by
      rw [← hp1, ← hq1']
      exact hC0.take (by rw [hp1]; exact hp1e)
    by_cases hqe : q1.e = 0
    · obtain ⟨_, hbs⟩ : q1.e = 0 ∧ p1.bs = q1.bs ++ (encF t).drop n := by
        rcases hC1 with h | h
        · omega
        · exact h
      by_cases h2 : 2 ≤ q1.bs.length
      · have r0 : rd p1.bs 0 = rd q1.bs 0 := by rw [hbs]; simp only [rd, List.getD_eq_getElem?_getD]; rw [List.getElem?_append_left (by omega)]
        have r1 : rd p1.bs 1 = rd q1.bs 1 := by rw [hbs]; simp only [rd, List.getD_eq_getElem?_getD]; rw [List.getElem?_append_left (by omega)]
        have hww : decW ((encF t).take n) = decW (encF t) := by
          rw [hWp, hWq, r0, r1]
          congr 1
          have : 2 ≤ p1.bs.length := by rw [hbs, List.length_append]; omega
          simp only [hqe, hp1e, h2, this]
        refine fin _ _ hww ?_
        rw [hDp, hDq, hww]
        rw [hDp] at hp2e
        split
        · rename_i hw
          rw [if_pos hw] at hp2e
          exact hC1.take hp2e
        · exact hC1
      · have hWq' : decW ((encF t).take n) = false := by rw [hWq]; exact decide_eq_false (fun h => h2 h.2.1)
        rw [hDq, hWq']
        simp only [Bool.false_eq_true, if_false]
        by_cases hw : decW (encF t) = true
        · rw [hWp, decide_eq_true_eq] at hw
          have hq : q1 = ⟨[], 0⟩ ∨ q1 = ⟨[0], 0⟩ := by
            obtain ⟨b, e⟩ := q1
            simp only at hqe hbs h2
            subst hqe
            rcases b with _ | ⟨x, _ | ⟨y, r⟩⟩
            · exact .inl rfl
            · right
              have h0 := hw.2.2.1
              rw [hbs] at h0
              have : x = 0 := h0
              rw [this]
            · simp at h2
          rcases hq with rfl | rfl
          · rfl
          · rfl
        · rw [Bool.not_eq_true] at hw
          refine fin false q1 hw.symm ?_
          rw [hDp, hw]
          exact hC1
    · have h8 := hC1.bad hqe
      have hWq' : decW ((encF t).take n) = false := by rw [hWq]; exact decide_eq_false (fun h => hqe h.1)
      rw [hDq, hWq']
      simp only [Bool.false_eq_true, if_false]
      rw [r9_bad _ _ hqe, h8]
  have hlen : ((encF t).take n).length ≤ 65536 := by rw [List.length_take]; omega
  have h1 : decE1 ((encF t).take n) = 8 := by
    unfold decE1
    rw [h9, if_neg (fun h => by omega)]
  unfold decE
  rw [h1, if_neg (fun h => by cases h.1)]
end Go.Proofs.YtclkgflficlmiaaDoor
end

/-! ## TxReadP -/
section
set_option maxRecDepth 100000
set_option linter.unusedVariables false
namespace Go.Proofs.YtclkgflficlmiaaDoor
open Go Go.RowKit
theorem expF_inv {bs : List Int} (hb : Bytes bs) {x : Int} {k : Nat} (h : expF bs = (x, k, 0)) : bs = compF x.toNat ++ bs.drop k := by
  have hx := expF_range hb
  rw [h] at hx
  rcases bs with _ | ⟨b, r⟩
  · cases h
  have hb0 := hb b (by simp)
  have hr : Bytes r := fun y hy => hb y (List.mem_cons_of_mem _ hy)
  simp only [expF] at h
  by_cases h1 : b < 253
  · rw [if_pos h1] at h
    simp only [Prod.mk.injEq] at h
    obtain ⟨rfl, rfl, _⟩ := h
    have : compF b.toNat = [b] := by
      unfold compF
      rw [if_pos (by omega)]
      congr 1
      omega
    rw [this]
    rfl
  · rw [if_neg h1] at h
    by_cases h2 : r.length < sizF b
    · rw [if_pos h2] at h; simp at h
    · rw [if_neg h2] at h
      by_cases h3 : (compF (ofLE (r.take (sizF b))).toNat).length = 1 + sizF b
      · rw [if_neg (fun k => k h3)] at h
        simp only [Prod.mk.injEq] at h
        obtain ⟨rfl, rfl, _⟩ := h
        have hsb : 1 ≤ sizF b := by unfold sizF; split <;> (try split) <;> omega
        have hle := leF_ofLE (r.take (sizF b)) (hr.take _)
        rw [List.length_take, Nat.min_eq_left (by omega)] at hle
        simp only at hx
        rcases compF_form (ofLE (r.take (sizF b))).toNat (by omega) with ⟨g1, g2⟩ | ⟨b', s', g1, g2, g3, g4, _⟩
        · rw [g2] at h3
          simp at h3
          omega
        · rw [g1, List.length_cons, leF_length] at h3
          have hs : s' = sizF b := by omega
          subst hs
          have hbb : b' = b := by
            unfold sizF at g4
            (repeat' split at g4) <;> omega
          rw [g1, hle, hbb, List.cons_append, Nat.add_comm 1, List.drop_succ_cons, List.take_append_drop]
      · rw [if_pos h3] at h; simp at h
theorem PSt.take_inv {p : PSt} {n : Nat} (h : (p.take n).e = 0) : p.bs = p.takeB n ++ (p.take n).bs ∧ (p.takeB n).length = n := by
  obtain ⟨h0, hn, hT⟩ := PSt.take_e h
  have hB : p.takeB n = p.bs.take n := by unfold PSt.takeB; rw [if_pos ⟨h0, hn⟩]
  rw [hT, hB]
  exact ⟨(List.take_append_drop _ _).symm, by rw [List.length_take]; omega⟩
theorem PSt.count_inv {p : PSt} (hb : Bytes p.bs) {m : Nat} (h : (p.count m).e = 0) : p.bs = compF (p.countV m) ++ (p.count m).bs ∧ p.countV m ≤ m := by
  obtain ⟨h0, x, k, hx, hm, hV, hC⟩ := PSt.count_e h
  rw [hC, hV]
  exact ⟨expF_inv hb hx, by omega⟩
theorem PSt.text_inv {p : PSt} (hb : Bytes p.bs) (h : p.text.e = 0) : p.bs = textF (strOfNums p.textB) ++ p.text.bs ∧ (strOfNums p.textB).size ≤ 10000 := by
  have h1 := (PSt.text_e h).1
  obtain ⟨h2, h3⟩ := PSt.count_inv hb h1
  have h4 := PSt.take_inv (p := p.count 10000) (n := p.countV 10000) h
  have hl : p.textB.length = p.countV 10000 := h4.2
  refine ⟨?_, by rw [strOfNums_size, hl]; exact h3⟩
  unfold textF
  rw [strOfNums_size, bytesOf_strOf _ (PSt.textB_bytes hb), hl, List.append_assoc]
  have h5 : (p.count 10000).bs = p.textB ++ p.text.bs := h4.1
  rw [← h5]
  exact h2
theorem le4_back {bs : List Int} (h : Bytes bs) (hl : bs.length = 4) : leF 4 (ofLE bs).toNat = bs := by
  have := leF_ofLE bs h
  rwa [hl] at this
theorem ver_back {bs : List Int} (h : Bytes bs) (hl : bs.length = 4) : leF 4 (IntKind.i32.wrap (ofLE bs) % 4294967296).toNat = bs := by
  have h1 := le4 bs h (by omega)
  have : IntKind.i32.wrap (ofLE bs) % 4294967296 = ofLE bs := by rw [IntKind.wrap_i32]; omega
  rw [this, le4_back h hl]
theorem coins_of {bs : List Int} (h : Bytes bs) (hl : bs.length = 8) : leF 8 (IntKind.i64.wrap (ofLE bs) % 18446744073709551616).toNat = bs := by
  have h1 := ofLE_range bs h
  rw [hl] at h1
  have : IntKind.i64.wrap (ofLE bs) % 18446744073709551616 = ofLE bs := by rw [IntKind.wrap_i64]; omega
  rw [this]
  have := leF_ofLE bs h
  rwa [hl] at this
structure InGood (x : TIn) : Prop where
  ok : x.Ok
  wit : x.wit = []
  sc : x.script.size ≤ 10000
theorem inP1_inv {p : PSt} (hb : Bytes p.bs) (h : (inP1 p).2.e = 0) : p.bs = layIn (inP1 p).1 ++ (inP1 p).2.bs ∧ InGood (inP1 p).1 ∧ Bytes (inP1 p).2.bs := by
  obtain ⟨h1, h2, h3, h4⟩ := inP1_e p h
  have b1 := PSt.take_bytes hb 32
  have b2 := PSt.take_bytes b1 4
  have b3 := PSt.text_bytes b2
  have t1 := PSt.take_inv h3
  have t2 := PSt.take_inv h2
  have t3 := PSt.text_inv b2 h1
  have t4 := PSt.take_inv (p := ((p.take 32).take 4).text) (n := 4) h
  refine ⟨?_, ⟨inP1_ok hb, rfl, t3.2⟩, inP1_bytes hb⟩
  have e : layIn (inP1 p).1 = p.takeB 32 ++ ((p.take 32).takeB 4 ++ (textF (strOfNums ((p.take 32).take 4).textB) ++ (((p.take 32).take 4).text).takeB 4)) := by
    show zpad (p.takeB 32) ++ leF 4 (ofLE ((p.take 32).takeB 4)).toNat ++ textF (strOfNums ((p.take 32).take 4).textB) ++ leF 4 (ofLE ((((p.take 32).take 4).text).takeB 4)).toNat = _
    rw [zpad_full _ t1.2, le4_back (PSt.takeB_bytes b1 4) t2.2, le4_back (PSt.takeB_bytes b3 4) t4.2]
    simp only [List.append_assoc]
  rw [e]
  simp only [List.append_assoc]
  have e4 : (((p.take 32).take 4).text).bs = (((p.take 32).take 4).text).takeB 4 ++ (inP1 p).2.bs := t4.1
  rw [← e4, ← t3.1, ← t2.1]
  exact t1.1
structure OutGood (x : TOut) : Prop where
  ok : x.Ok
  sc : x.script.size ≤ 10000
theorem outP1_inv {p : PSt} (hb : Bytes p.bs) (h : (outP1 p).2.e = 0) : p.bs = layOut (outP1 p).1 ++ (outP1 p).2.bs ∧ OutGood (outP1 p).1 ∧ Bytes (outP1 p).2.bs := by
  obtain ⟨h1, h2⟩ := outP1_e p h
  have b1 := PSt.take_bytes hb 8
  have t1 := PSt.take_inv h1
  have t2 := PSt.text_inv b1 (show (p.take 8).text.e = 0 from h)
  refine ⟨?_, ⟨outP1_ok hb, t2.2⟩, outP1_bytes hb⟩
  have e : layOut (outP1 p).1 = p.takeB 8 ++ textF (strOfNums (p.take 8).textB) := by
    show leF 8 (IntKind.i64.wrap (ofLE (p.takeB 8)) % 18446744073709551616).toNat ++ _ = _
    rw [coins_of (PSt.takeB_bytes hb 8) t1.2]
    rfl
  rw [e, List.append_assoc]
  have e4 : (p.take 8).bs = textF (strOfNums (p.take 8).textB) ++ (outP1 p).2.bs := t2.1
  rw [← e4]
  exact t1.1
theorem witF_inv {p : PSt} (hb : Bytes p.bs) (h : (witF p).2.e = 0) : p.bs = textF (witF p).1 ++ (witF p).2.bs ∧ (witF p).1.size ≤ 10000 ∧ Bytes (witF p).2.bs :=
  ⟨(PSt.text_inv hb h).1, (PSt.text_inv hb h).2, PSt.text_bytes hb⟩
theorem loopP_inv {α : Type} (f : PSt → α × PSt) (lay : α → List Int) (Good : α → Prop) (H : ∀ p, Bytes p.bs → (f p).2.e = 0 → p.bs = lay (f p).1 ++ (f p).2.bs ∧ Good (f p).1 ∧ Bytes (f p).2.bs) :
    ∀ (n : Nat) (p : PSt), Bytes p.bs → (loopP f n p).2.e = 0 → p.bs = (loopP f n p).1.flatMap lay ++ (loopP f n p).2.bs ∧ (∀ x ∈ (loopP f n p).1, Good x) ∧ Bytes (loopP f n p).2.bs
  | 0, p, hb, _ => ⟨rfl, (fun x hx => by cases hx), hb⟩
  | n + 1, p, hb, h => by
    rw [loopP] at h ⊢
    by_cases h1 : p.e = 0
    · rw [if_neg (by simp [h1])] at h ⊢
      simp only at h ⊢
      have h2 := loopP_e f n _ h
      obtain ⟨a1, a2, a3⟩ := H p hb h2
      obtain ⟨c1, c2, c3⟩ := loopP_inv f lay Good H n (f p).2 a3 h
      refine ⟨?_, fun x hx => ?_, c3⟩
      · rw [List.flatMap_cons, List.append_assoc, ← c1]
        exact a1
      · rcases List.mem_cons.1 hx with rfl | hx
        · exact a2
        · exact c2 x hx
    · rw [if_pos h1] at h
      exact absurd h h1
structure WitGood (l : List ByteArray) : Prop where
  len : l.length ≤ 100
  sc : ∀ s ∈ l, s.size ≤ 10000
theorem witP1_inv {p : PSt} (hb : Bytes p.bs) (h : (witP1 p).2.e = 0) : p.bs = compF (witP1 p).1.length ++ ((witP1 p).1.flatMap textF ++ (witP1 p).2.bs) ∧ WitGood (witP1 p).1 ∧ Bytes (witP1 p).2.bs := by
  obtain ⟨h1, _⟩ := witP1_e p h
  obtain ⟨c1, c2⟩ := PSt.count_inv hb h1
  unfold witP1 at h ⊢
  rw [witsP_eq] at h ⊢
  obtain ⟨a1, a2, a3⟩ := loopP_inv witF textF (fun s => s.size ≤ 10000) (fun p hb h => witF_inv hb h) _ _ (PSt.count_bytes hb 100) h
  have hl := loopP_len _ _ _ h
  refine ⟨?_, ⟨by rw [hl]; exact c2, a2⟩, a3⟩
  rw [← a1, hl]
  exact c1
theorem allW_inv : ∀ (xs : List TIn) (p : PSt), Bytes p.bs → (∀ x ∈ xs, InGood x) → (allW xs p).2.e = 0 →
    p.bs = (allW xs p).1.flatMap layWit ++ (allW xs p).2.bs ∧ (∀ x ∈ (allW xs p).1, x.Ok ∧ x.script.size ≤ 10000 ∧ WitGood x.wit) ∧ (allW xs p).1.length = xs.length ∧ (allW xs p).1.flatMap layIn = xs.flatMap layIn ∧ Bytes (allW xs p).2.bs
  | [], p, hb, _, _ => ⟨rfl, (fun x hx => by cases hx), rfl, rfl, hb⟩
  | x :: xs, p, hb, hg, h => by
    rw [allW] at h ⊢
    simp only at h ⊢
    have h2 : (witP1 p).2.e = 0 := by
      by_cases h3 : (witP1 p).2.e = 0
      · exact h3
      · rw [allW_bad xs _ h3] at h; exact h
    obtain ⟨a1, a2, a3⟩ := witP1_inv hb h2
    obtain ⟨c1, c2, c3, c4, c5⟩ := allW_inv xs (witP1 p).2 a3 (fun y hy => hg y (List.mem_cons_of_mem _ hy)) h
    have gx := hg x (by simp)
    refine ⟨?_, fun y hy => ?_, by simp only [List.length_cons, c3], ?_, c5⟩
    · rw [List.flatMap_cons, List.append_assoc, ← c1]
      show p.bs = (compF (witP1 p).1.length ++ (witP1 p).1.flatMap textF) ++ (witP1 p).2.bs
      rw [List.append_assoc]
      exact a1
    · rcases List.mem_cons.1 hy with rfl | hy
      · refine ⟨⟨gx.ok.idl, gx.ok.idb, gx.ok.o0, gx.ok.o1, gx.ok.s0, gx.ok.s1, gx.ok.sc, fun s hs => ?_⟩, gx.sc, a2⟩
        have := a2.sc s hs
        unfold maxLen
        omega
      · exact c2 y hy
    · rw [List.flatMap_cons, List.flatMap_cons, c4]
      rfl
theorem insErr_of : ∀ (ins : List TIn), (∀ x ∈ ins, inErr x = 0) → insErr ins = 0
  | [], _ => rfl
  | x :: r, h => by
    rw [insErr, if_pos (h x (by simp))]
    exact insErr_of r (fun y hy => h y (List.mem_cons_of_mem _ hy))
theorem checkF_of {t : TTx} (h : Bounds t) : checkF t = 0 := by
  have h1 : insErr t.ins = 0 := insErr_of _ (fun x hx => by
    obtain ⟨a, b, c⟩ := h.ins x hx
    unfold inErr
    rw [if_neg (by omega), if_neg (by omega), if_neg]
    simp only [witErr, Bool.not_eq_true, List.any_eq_false, decide_eq_true_eq]
    intro s hs
    have := c s hs
    omega)
  have h2 : outsErr t.outs = false := by
    simp only [outsErr, List.any_eq_false, decide_eq_true_eq]
    intro o ho
    have := h.outs o ho
    omega
  have := h.i0
  have := h.o0
  have := h.i1
  have := h.o1
  unfold checkF
  rw [if_neg (by omega), if_neg (by omega), if_neg (fun k => k h1), if_neg (by rw [h2]; decide)]
theorem any_bare : ∀ (xs : List TIn), (∀ x ∈ xs, x.wit = []) → (xs.any fun i => decide (0 < i.wit.length)) = false
  | [], _ => rfl
  | x :: xs, h => by
    rw [List.any_cons, h x (by simp), any_bare xs (fun y hy => h y (List.mem_cons_of_mem _ hy))]
    rfl
/-- What is read is a transaction in its bounds; its bytes are those that were read. -/
theorem dec_read {bs : List Int} (hb : Bytes bs) (h : decE bs = 0) :
    Bounds (decT bs) ∧ (decT bs).Ok ∧ decN bs ≤ bs.length ∧ encF (decT bs) = bs.take (decN bs) ∧ (encF (decT bs)).length = decN bs ∧ decN bs ≤ 65536 := by
  have hE1 : decE1 bs = 0 ∧ ¬ ((decWs bs).1.length = 0 ∨ (decO bs).1.length = 0 ∨ (decW bs = true ∧ (decT bs).hasWit = false)) := by
    unfold decE at h
    split at h
    · cases h
    · rename_i hh
      exact ⟨h, fun k => hh ⟨h, k⟩⟩
  obtain ⟨hE1, hno⟩ := hE1
  have h9 : (decP9 bs).e = 0 := by
    unfold decE1 at hE1
    split at hE1
    · cases hE1
    · exact hE1
  have h9' : (r9 (decW bs) (decP2 bs)).e = 0 := h9
  obtain ⟨eW, eO, eI, ec1, ec2⟩ := r9_e _ _ h9'
  have hWs : decWs bs = rW (decW bs) (decP2 bs) := rfl
  have hOs : decO bs = rO (decP2 bs) := rfl
  have hT9 : decP9 bs = (rW (decW bs) (decP2 bs)).2.take 4 := rfl
  have hTt : decT bs = ⟨IntKind.i32.wrap (ofLE ((⟨bs.take 65536, 0⟩ : PSt).takeB 4)), (rW (decW bs) (decP2 bs)).1, (rO (decP2 bs)).1, ofLE ((rW (decW bs) (decP2 bs)).2.takeB 4)⟩ := rfl
  have hb0 : Bytes (⟨bs.take 65536, 0⟩ : PSt).bs := hb.take _
  have hb1 := PSt.take_bytes hb0 4
  obtain ⟨p1, hp1⟩ : ∃ p1, (⟨bs.take 65536, 0⟩ : PSt).take 4 = p1 := ⟨_, rfl⟩
  have hD2 : decP2 bs = if decW bs then p1.take 2 else p1 := by unfold decP2; rw [hp1]
  have hWd : decW bs = decide (p1.e = 0 ∧ 2 ≤ p1.bs.length ∧ rd p1.bs 0 = 0 ∧ rd p1.bs 1 = 1) := by unfold decW; rw [hp1]
  have e2 : (decP2 bs).e = 0 := (PSt.count_e ec1).1
  have e1 : p1.e = 0 := by
    rw [hD2] at e2
    split at e2
    · exact (PSt.take_e e2).1
    · exact e2
  have t0 := PSt.take_inv (p := ⟨bs.take 65536, 0⟩) (n := 4) (by rw [hp1]; exact e1)
  rw [hp1] at t0 hb1
  have hflag : p1.bs = (if decW bs then [0, 1] else []) ++ (decP2 bs).bs := by
    rw [hD2]
    by_cases hw : decW bs = true
    · rw [hw]
      simp only [if_true]
      rw [hWd, decide_eq_true_eq] at hw
      obtain ⟨_, h2, r0, r1⟩ := hw
      obtain ⟨b, e⟩ := p1
      simp only at e1 h2 r0 r1
      rcases b with _ | ⟨x, _ | ⟨y, r⟩⟩
      · simp at h2
      · simp at h2
      · obtain rfl : x = 0 := r0
        obtain rfl : y = 1 := r1
        unfold PSt.take
        rw [if_pos e1, if_pos h2]
        rfl
    · rw [Bool.not_eq_true] at hw
      rw [hw]
      rfl
  have hb2 : Bytes (decP2 bs).bs := by
    rw [hD2]
    split
    · exact PSt.take_bytes hb1 2
    · exact hb1
  obtain ⟨p2, hp2⟩ : ∃ p2, decP2 bs = p2 := ⟨_, rfl⟩
  obtain ⟨fl, hfl⟩ : ∃ fl, decW bs = fl := ⟨_, rfl⟩
  rw [hp2] at hflag hb2 eW eO eI ec1 ec2 hOs
  rw [hp2, hfl] at hT9 hTt hWs
  rw [hfl] at eW hflag hno
  -- inputs
  have i1 := PSt.count_inv hb2 ec1
  have hIeq : rI p2 = loopP inP1 (p2.countV 1024) (p2.count 1024) := by unfold rI; rw [insP_eq]
  have i2 := loopP_inv inP1 layIn InGood (fun p hb h => inP1_inv hb h) (p2.countV 1024) (p2.count 1024) (PSt.count_bytes hb2 _) (by rw [← hIeq]; exact eI)
  have i3 := loopP_len inP1 (p2.countV 1024) (p2.count 1024) (by rw [← hIeq]; exact eI)
  rw [← hIeq] at i2 i3
  -- outputs
  have o1 := PSt.count_inv i2.2.2 ec2
  have hOeq : rO p2 = loopP outP1 ((rI p2).2.countV 1024) ((rI p2).2.count 1024) := by unfold rO; rw [outsP_eq]
  have o2 := loopP_inv outP1 layOut OutGood (fun p hb h => outP1_inv hb h) ((rI p2).2.countV 1024) ((rI p2).2.count 1024) (PSt.count_bytes i2.2.2 _) (by rw [← hOeq]; exact eO)
  have o3 := loopP_len outP1 ((rI p2).2.countV 1024) ((rI p2).2.count 1024) (by rw [← hOeq]; exact eO)
  rw [← hOeq] at o2 o3
  -- witnesses
  have hW : (rO p2).2.bs = (if fl then (rW fl p2).1.flatMap layWit else []) ++ (rW fl p2).2.bs ∧ (∀ x ∈ (rW fl p2).1, x.Ok ∧ x.script.size ≤ 10000 ∧ WitGood x.wit) ∧ (rW fl p2).1.length = (rI p2).1.length ∧ (rW fl p2).1.flatMap layIn = (rI p2).1.flatMap layIn ∧ Bytes (rW fl p2).2.bs ∧ (fl = false → ∀ x ∈ (rW fl p2).1, x.wit = []) := by
    cases fl with
    | false =>
      refine ⟨rfl, fun x hx => ?_, rfl, rfl, o2.2.2, fun _ x hx => (i2.2.1 x hx).wit⟩
      have := i2.2.1 x hx
      exact ⟨this.ok, this.sc, by rw [this.wit]; exact ⟨by simp, fun s hs => by cases hs⟩⟩
    | true =>
      have := allW_inv (rI p2).1 (rO p2).2 o2.2.2 i2.2.1 eW
      exact ⟨this.1, this.2.1, this.2.2.1, this.2.2.2.1, this.2.2.2.2, fun h => by cases h⟩
  obtain ⟨w1, w2, w3, w4, w5, w6⟩ := hW
  have l1 := PSt.take_inv (p := (rW fl p2).2) (n := 4) (by rw [← hT9]; exact h9)
  rw [← hT9] at l1
  have hwit : (decT bs).hasWit = fl := by
    cases fl with
    | false =>
      rw [hTt]
      exact any_bare _ (w6 rfl)
    | true =>
      cases hh : (decT bs).hasWit with
      | true => rfl
      | false => exact absurd (.inr (.inr ⟨rfl, hh⟩)) hno
  have hver := ver_back (PSt.takeB_bytes hb0 4) t0.2
  have hlock := le4_back (PSt.takeB_bytes w5 4) l1.2
  have henc : bs.take 65536 = encF (decT bs) ++ (decP9 bs).bs := by
    unfold encF
    rw [hwit, layF_tail, hTt]
    simp only [tailF]
    rw [hver, w3, w4, i3, o3, hlock, ← l1.1, ← w1, ← o2.1, ← o1.1, ← i2.1, ← i1.1, ← hflag]
    exact t0.1
  have hlen := congrArg List.length henc
  rw [List.length_take, List.length_append] at hlen
  have hN : decN bs = (encF (decT bs)).length := by unfold decN; omega
  refine ⟨?_, ?_, by omega, ?_, hN.symm, by omega⟩
  · rw [hWs] at hno
    rw [hOs] at hno
    rw [hTt]
    refine ⟨?_, ?_, ?_, ?_, fun x hx => ⟨(w2 x hx).2.2.len, (w2 x hx).2.1, (w2 x hx).2.2.sc⟩, fun o ho => (o2.2.1 o ho).sc⟩
    · show 0 < (rW fl p2).1.length
      have : ¬ (rW fl p2).1.length = 0 := fun h => hno (.inl h)
      omega
    · show 0 < (rO p2).1.length
      have : ¬ (rO p2).1.length = 0 := fun h => hno (.inr (.inl h))
      omega
    · show (rW fl p2).1.length ≤ 1024
      rw [w3, i3]
      exact i1.2
    · show (rO p2).1.length ≤ 1024
      rw [o3]
      exact o1.2
  · rw [hTt]
    refine ⟨(wrap_i32_range _).1, (wrap_i32_range _).2, (le4_takeB w5).1, (le4_takeB w5).2, fun x hx => (w2 x hx).1, fun o ho => (o2.2.1 o ho).ok⟩
  · have h1 : (bs.take 65536).take (decN bs) = encF (decT bs) := by rw [henc, hN, List.take_left]
    rw [← h1, List.take_take, Nat.min_eq_left (by omega)]
end Go.Proofs.YtclkgflficlmiaaDoor
end

/-! ## TxBy -/
section
set_option linter.unusedVariables false
namespace Go.Proofs.YtclkgflficlmiaaDoor
open Go Go.RowKit
theorem flat_bytes {α : Type} (f : α → List Int) : ∀ (xs : List α), (∀ x ∈ xs, Bytes (f x)) → Bytes (xs.flatMap f)
  | [], _ => Bytes.nil
  | x :: xs, h => by
    rw [List.flatMap_cons]
    exact (h x (by simp)).append (flat_bytes f xs (fun y hy => h y (List.mem_cons_of_mem _ hy)))
theorem textF_bytes (s : ByteArray) : Bytes (textF s) := (compF_bytes _).append (bytesOf_bytes s)
theorem layF_bytes {t : TTx} (h : t.Ok) (wit : Bool) : Bytes (layF t wit) := by
  have h1 : Bytes (t.ins.flatMap layIn) := flat_bytes _ _ (fun x hx => (((h.ins x hx).idb.append (leF_bytes _ _)).append (textF_bytes _)).append (leF_bytes _ _))
  have h2 : Bytes (t.outs.flatMap layOut) := flat_bytes _ _ (fun x hx => (leF_bytes _ _).append (textF_bytes _))
  have h3 : Bytes (t.ins.flatMap layWit) := flat_bytes _ _ (fun x hx => (compF_bytes _).append (flat_bytes _ _ (fun s _ => textF_bytes s)))
  have hf : Bytes (if wit then [0, 1] else []) := by
    cases wit
    · exact Bytes.nil
    · intro x hx
      rcases List.mem_cons.1 hx with rfl | hx
      · omega
      · rw [List.mem_singleton.1 hx]; omega
  have hw : Bytes (if wit then t.ins.flatMap layWit else []) := by
    cases wit
    · exact Bytes.nil
    · exact h3
  exact (((((((leF_bytes _ _).append hf).append (compF_bytes _)).append h1).append (compF_bytes _)).append h2).append hw).append (leF_bytes _ _)
end Go.Proofs.YtclkgflficlmiaaDoor
end
