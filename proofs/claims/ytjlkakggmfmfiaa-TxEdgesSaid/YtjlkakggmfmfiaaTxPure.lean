/- A transaction's bytes, read again, are it, and nothing behind them is taken: plain law. -/
import Derived.Test.YtjlkakggmfmfiaaDecPure
import Derived.Test.YtjlkakggmfmfiaaChkPure
set_option maxRecDepth 100000
set_option linter.unusedVariables false
namespace Go.Proofs.Ytjlkakggmfmfiaa
open Go Go.RowKit
theorem PSt.take_app (a r : List Int) (n : Nat) (h : a.length = n) : (⟨a ++ r, 0⟩ : PSt).take n = ⟨r, 0⟩ := by
  subst h
  unfold PSt.take
  rw [if_pos rfl, if_pos (by simp), List.drop_left]
theorem PSt.takeB_app (a r : List Int) (n : Nat) (h : a.length = n) : (⟨a ++ r, 0⟩ : PSt).takeB n = a := by
  subst h
  unfold PSt.takeB
  rw [if_pos ⟨rfl, by simp⟩, List.take_left]
theorem compF_form (x : Nat) (hx : x < 18446744073709551616) : (x < 253 ∧ compF x = [(x : Int)]) ∨ ∃ b s, compF x = b :: leF s x ∧ ¬ b < 253 ∧ b ≤ 255 ∧ sizF b = s ∧ x < 256 ^ s := by
  by_cases h1 : x < 253
  · exact .inl ⟨h1, by unfold compF; rw [if_pos h1]⟩
  · refine .inr ?_
    by_cases h2 : x ≤ 65535
    · exact ⟨253, 2, by unfold compF; rw [if_neg h1, if_pos h2], by decide, by decide, rfl, by omega⟩
    · by_cases h3 : x ≤ 4294967295
      · exact ⟨254, 4, by unfold compF; rw [if_neg h1, if_neg h2, if_pos h3], by decide, by decide, rfl, by omega⟩
      · exact ⟨255, 8, by unfold compF; rw [if_neg h1, if_neg h2, if_neg h3], by decide, by decide, rfl, by omega⟩
theorem expF_comp (x : Nat) (hx : x < 18446744073709551616) (r : List Int) : expF (compF x ++ r) = ((x : Int), (compF x).length, 0) := by
  rcases compF_form x hx with ⟨h1, hc⟩ | ⟨b, s, hc, hb, _, hs, hxs⟩
  · rw [hc]
    show (if (x : Int) < 253 then _ else _) = _
    rw [if_pos (by omega)]
    rfl
  · have hl : (leF s x ++ r).take s = leF s x := by
      have := List.take_left (l₁ := leF s x) (l₂ := r)
      rwa [leF_length] at this
    have ho : ofLE (leF s x) = (x : Int) := by rw [ofLE_leF, Nat.mod_eq_of_lt hxs]
    have hlen : (compF x).length = 1 + s := by rw [hc, List.length_cons, leF_length, Nat.add_comm]
    have e1 : expF (b :: (leF s x ++ r)) = ((x : Int), 1 + s, 0) := by
      simp only [expF, hs]
      rw [if_neg hb, if_neg (by rw [List.length_append, leF_length]; omega), hl, ho, Int.toNat_natCast, if_neg (by rw [hlen]; exact fun h => h rfl)]
    rw [hlen, hc, List.cons_append, e1]
theorem PSt.countV_app (x m : Nat) (r : List Int) (h : x ≤ m) (hm : m ≤ 100000) : (⟨compF x ++ r, 0⟩ : PSt).countV m = x := by
  unfold PSt.countV
  rw [if_neg (by simp), expF_comp x (by omega)]
  simp only
  rw [if_neg (by simp), if_neg (by omega), Int.toNat_natCast]
theorem PSt.count_app (x m : Nat) (r : List Int) (h : x ≤ m) (hm : m ≤ 100000) : (⟨compF x ++ r, 0⟩ : PSt).count m = ⟨r, 0⟩ := by
  unfold PSt.count
  rw [if_neg (by simp), expF_comp x (by omega)]
  simp only
  rw [if_neg (by simp), if_neg (by omega), List.drop_left]
theorem PSt.text_app (s : ByteArray) (r : List Int) (h : s.size ≤ 10000) : (⟨textF s ++ r, 0⟩ : PSt).text = ⟨r, 0⟩ := by
  unfold PSt.text textF
  rw [List.append_assoc, PSt.countV_app _ _ _ h (by decide), PSt.count_app _ _ _ h (by decide), PSt.take_app _ _ _ (bytesOf_length s)]
theorem PSt.textB_app (s : ByteArray) (r : List Int) (h : s.size ≤ 10000) : (⟨textF s ++ r, 0⟩ : PSt).textB = bytesOf s := by
  unfold PSt.textB textF
  rw [List.append_assoc, PSt.countV_app _ _ _ h (by decide), PSt.count_app _ _ _ h (by decide), PSt.takeB_app _ _ _ (bytesOf_length s)]
/-- A loop that reads so many things, and stops at an error. -/
def loopP {α : Type} (f : PSt → α × PSt) : Nat → PSt → List α × PSt
  | 0, p => ([], p)
  | n + 1, p => if p.e ≠ 0 then ([], p) else ((f p).1 :: (loopP f n (f p).2).1, (loopP f n (f p).2).2)
theorem insP_eq : ∀ (n : Nat) (p : PSt), insP n p = loopP inP1 n p
  | 0, _ => rfl
  | n + 1, p => by rw [insP, loopP, insP_eq n]
theorem outsP_eq : ∀ (n : Nat) (p : PSt), outsP n p = loopP outP1 n p
  | 0, _ => rfl
  | n + 1, p => by rw [outsP, loopP, outsP_eq n]
def witF (p : PSt) : ByteArray × PSt := (strOfNums p.textB, p.text)
theorem witsP_eq : ∀ (n : Nat) (p : PSt), witsP n p = loopP witF n p
  | 0, _ => rfl
  | n + 1, p => by rw [witsP, loopP, witsP_eq n]; rfl
theorem loopP_bad {α : Type} (f : PSt → α × PSt) (n : Nat) (p : PSt) (h : p.e ≠ 0) : loopP f n p = ([], p) := by
  cases n with
  | zero => rfl
  | succ n => rw [loopP, if_pos h]
theorem loopP_lay {α : Type} (f : PSt → α × PSt) (lay : α → List Int) (g : α → α) (r : List Int) : ∀ (xs : List α), (∀ x ∈ xs, ∀ r, f ⟨lay x ++ r, 0⟩ = (g x, ⟨r, 0⟩)) → loopP f xs.length ⟨xs.flatMap lay ++ r, 0⟩ = (xs.map g, ⟨r, 0⟩)
  | [], _ => rfl
  | x :: xs, h => by
    rw [List.length_cons, loopP, if_neg (by simp), List.flatMap_cons, List.append_assoc, h x (by simp)]
    simp only
    rw [loopP_lay f lay g r xs (fun y hy => h y (List.mem_cons_of_mem _ hy))]
    rfl
def TIn.bare (x : TIn) : TIn := { x with wit := [] }
structure TTx.Ok (t : TTx) : Prop where
  v0 : -2147483648 ≤ t.ver
  v1 : t.ver ≤ 2147483647
  l0 : 0 ≤ t.lock
  l1 : t.lock ≤ 4294967295
  ins : ∀ x ∈ t.ins, x.Ok
  outs : ∀ x ∈ t.outs, x.Ok
theorem ofLE_leF4 (x : Int) (h0 : 0 ≤ x) (h1 : x ≤ 4294967295) : ofLE (leF 4 x.toNat) = x := by
  rw [ofLE_leF, Nat.mod_eq_of_lt (by omega)]
  omega
theorem zpad_full (xs : List Int) (h : xs.length = 32) : zpad xs = xs := by simp [zpad, h]
theorem inP1_lay (x : TIn) (hx : x.Ok) (hs : x.script.size ≤ 10000) (r : List Int) : inP1 ⟨layIn x ++ r, 0⟩ = (x.bare, ⟨r, 0⟩) := by
  have e : layIn x ++ r = x.id ++ (leF 4 x.out.toNat ++ (textF x.script ++ (leF 4 x.seq.toNat ++ r))) := by simp only [layIn, List.append_assoc]
  rw [e]
  unfold inP1
  rw [PSt.take_app _ _ _ hx.idl, PSt.takeB_app _ _ _ hx.idl, PSt.take_app _ _ 4 (leF_length 4 _), PSt.takeB_app _ _ 4 (leF_length 4 _), PSt.text_app _ _ hs, PSt.textB_app _ _ hs, PSt.take_app _ _ 4 (leF_length 4 _), PSt.takeB_app _ _ 4 (leF_length 4 _), zpad_full _ hx.idl, ofLE_leF4 _ hx.o0 hx.o1, ofLE_leF4 _ hx.s0 hx.s1, strOf_bytesOf]
  rfl
theorem coins_back (c : Int) (h0 : -9223372036854775808 ≤ c) (h1 : c ≤ 9223372036854775807) : IntKind.i64.wrap (ofLE (leF 8 (c % 18446744073709551616).toNat)) = c := by
  rw [ofLE_leF, Nat.mod_eq_of_lt (by omega), IntKind.wrap_i64]
  omega
theorem outP1_lay (x : TOut) (hx : x.Ok) (hs : x.script.size ≤ 10000) (r : List Int) : outP1 ⟨layOut x ++ r, 0⟩ = (x, ⟨r, 0⟩) := by
  have e : layOut x ++ r = leF 8 (x.coins % 18446744073709551616).toNat ++ (textF x.script ++ r) := by simp only [layOut, List.append_assoc]
  rw [e]
  unfold outP1
  rw [PSt.take_app _ _ 8 (leF_length 8 _), PSt.takeB_app _ _ 8 (leF_length 8 _), PSt.text_app _ _ hs, PSt.textB_app _ _ hs, coins_back _ hx.c0 hx.c1, strOf_bytesOf]
theorem witF_lay (s : ByteArray) (hs : s.size ≤ 10000) (r : List Int) : witF ⟨textF s ++ r, 0⟩ = (s, ⟨r, 0⟩) := by
  unfold witF
  rw [PSt.text_app _ _ hs, PSt.textB_app _ _ hs, strOf_bytesOf]
theorem witP1_lay (x : TIn) (hl : x.wit.length ≤ 100) (hs : ∀ s ∈ x.wit, s.size ≤ 10000) (r : List Int) : witP1 ⟨layWit x ++ r, 0⟩ = (x.wit, ⟨r, 0⟩) := by
  unfold witP1 layWit
  rw [List.append_assoc, PSt.countV_app _ _ _ hl (by decide), PSt.count_app _ _ _ hl (by decide), witsP_eq, loopP_lay witF textF id r x.wit (fun s h r => witF_lay s (hs s h) r), List.map_id]
theorem allW_lay (r : List Int) : ∀ (xs : List TIn), (∀ x ∈ xs, x.wit.length ≤ 100 ∧ ∀ s ∈ x.wit, s.size ≤ 10000) → allW (xs.map TIn.bare) ⟨xs.flatMap layWit ++ r, 0⟩ = (xs, ⟨r, 0⟩)
  | [], _ => rfl
  | x :: xs, h => by
    rw [List.map_cons, allW, List.flatMap_cons, List.append_assoc, witP1_lay x (h x (by simp)).1 (h x (by simp)).2]
    simp only
    rw [allW_lay r xs (fun y hy => h y (List.mem_cons_of_mem _ hy))]
    rfl
theorem bare_all : ∀ (xs : List TIn), (xs.any fun i => decide (0 < i.wit.length)) = false → xs.map TIn.bare = xs
  | [], _ => rfl
  | x :: xs, h => by
    rw [List.any_cons, Bool.or_eq_false_iff, decide_eq_false_iff_not] at h
    rw [List.map_cons, bare_all xs h.2]
    have hw : x.wit = [] := List.eq_nil_of_length_eq_zero (by omega)
    congr 1
    cases x
    simp only [TIn.bare] at hw ⊢
    rw [hw]
/-! ### the run behind the flag -/
def rI (p : PSt) : List TIn × PSt := insP (p.countV 1024) (p.count 1024)
def rO (p : PSt) : List TOut × PSt := outsP ((rI p).2.countV 1024) ((rI p).2.count 1024)
def rW (w : Bool) (p : PSt) : List TIn × PSt := if w then allW (rI p).1 (rO p).2 else ((rI p).1, (rO p).2)
def r9 (w : Bool) (p : PSt) : PSt := (rW w p).2.take 4
theorem decP9_eq (bs : List Int) : decP9 bs = r9 (decW bs) (decP2 bs) := rfl
/-- The bytes behind the version and the flag. -/
def tailF (t : TTx) (w : Bool) (r : List Int) : List Int := compF t.ins.length ++ (t.ins.flatMap layIn ++ (compF t.outs.length ++ (t.outs.flatMap layOut ++ ((if w then t.ins.flatMap layWit else []) ++ (leF 4 t.lock.toNat ++ r)))))
theorem layF_tail (t : TTx) (w : Bool) (r : List Int) : layF t w ++ r = leF 4 (t.ver % 4294967296).toNat ++ ((if w then [0, 1] else []) ++ tailF t w r) := by
  simp only [layF, tailF, List.append_assoc]
section
variable {t : TTx} (hok : t.Ok) (hb : Bounds t)
include hok hb
theorem rI_lay (w : Bool) (r : List Int) : rI ⟨tailF t w r, 0⟩ = (t.ins.map TIn.bare, ⟨compF t.outs.length ++ (t.outs.flatMap layOut ++ ((if w then t.ins.flatMap layWit else []) ++ (leF 4 t.lock.toNat ++ r))), 0⟩) := by
  unfold rI tailF
  rw [PSt.countV_app _ _ _ hb.i1 (by decide), PSt.count_app _ _ _ hb.i1 (by decide), insP_eq]
  exact loopP_lay inP1 layIn TIn.bare _ t.ins (fun x hx r => inP1_lay x (hok.ins x hx) (hb.ins x hx).2.1 r)
theorem rO_lay (w : Bool) (r : List Int) : rO ⟨tailF t w r, 0⟩ = (t.outs, ⟨(if w then t.ins.flatMap layWit else []) ++ (leF 4 t.lock.toNat ++ r), 0⟩) := by
  unfold rO
  rw [rI_lay hok hb w r]
  simp only
  rw [PSt.countV_app _ _ _ hb.o1 (by decide), PSt.count_app _ _ _ hb.o1 (by decide), outsP_eq]
  have := loopP_lay outP1 layOut id ((if w then t.ins.flatMap layWit else []) ++ (leF 4 t.lock.toNat ++ r)) t.outs (fun x hx r => outP1_lay x (hok.outs x hx) (hb.outs x hx) r)
  rwa [List.map_id] at this
theorem rW_lay (r : List Int) : rW t.hasWit ⟨tailF t t.hasWit r, 0⟩ = (t.ins, ⟨leF 4 t.lock.toNat ++ r, 0⟩) := by
  unfold rW
  rw [rI_lay hok hb, rO_lay hok hb]
  by_cases h : t.hasWit = true
  · rw [h]
    simp only [if_true]
    exact allW_lay _ t.ins (fun x hx => ⟨(hb.ins x hx).1, (hb.ins x hx).2.2⟩)
  · rw [Bool.not_eq_true] at h
    rw [h]
    simp only [Bool.false_eq_true, if_false, List.nil_append]
    rw [bare_all t.ins h]
end
theorem take_lay (bs more : List Int) (h : bs.length ≤ 65536) : (bs ++ more).take 65536 = bs ++ more.take (65536 - bs.length) := by
  rw [List.take_append, List.take_of_length_le h]
theorem compF_head (n : Nat) (h0 : 0 < n) (h1 : n ≤ 1024) (r : List Int) : rd (compF n ++ r) 0 ≠ 0 := by
  rcases compF_form n (by omega) with ⟨h, hc⟩ | ⟨b, s, hc, hb, _⟩
  · rw [hc]
    show (n : Int) ≠ 0
    omega
  · rw [hc]
    show b ≠ 0
    omega
/-- Read behind the version: where the run begins, and whether there are witnesses. -/
theorem dec_start {t : TTx} (hok : t.Ok) (hb : Bounds t) (hl : (encF t).length ≤ 65536) (more : List Int) :
    decW (encF t ++ more) = t.hasWit ∧ decP2 (encF t ++ more) = ⟨tailF t t.hasWit (more.take (65536 - (encF t).length)), 0⟩ ∧ IntKind.i32.wrap (ofLE ((⟨(encF t ++ more).take 65536, 0⟩ : PSt).takeB 4)) = t.ver := by
  have h1 : (⟨(encF t ++ more).take 65536, 0⟩ : PSt).take 4 = ⟨(if t.hasWit then [0, 1] else []) ++ tailF t t.hasWit (more.take (65536 - (encF t).length)), 0⟩ := by
    rw [take_lay _ _ hl, encF, layF_tail, PSt.take_app _ _ 4 (leF_length 4 _)]
  have h3 : (⟨(encF t ++ more).take 65536, 0⟩ : PSt).takeB 4 = leF 4 (t.ver % 4294967296).toNat := by
    rw [take_lay _ _ hl, encF, layF_tail, PSt.takeB_app _ _ 4 (leF_length 4 _)]
  have hw : decW (encF t ++ more) = t.hasWit := by
    unfold decW
    rw [h1]
    by_cases h : t.hasWit = true
    · rw [h]
      exact decide_eq_true ⟨rfl, by simp, rfl, rfl⟩
    · rw [Bool.not_eq_true] at h
      rw [h]
      simp only [Bool.false_eq_true, if_false, List.nil_append]
      refine decide_eq_false (fun hh => ?_)
      exact compF_head _ hb.i0 hb.i1 _ hh.2.2.1
  refine ⟨hw, ?_, ?_⟩
  · unfold decP2
    rw [hw, h1]
    by_cases h : t.hasWit = true
    · rw [h]
      simp only [if_true]
      exact PSt.take_app [0, 1] _ 2 rfl
    · rw [Bool.not_eq_true] at h
      rw [h]
      simp only [Bool.false_eq_true, if_false, List.nil_append]
  · have := hok.v0
    have := hok.v1
    rw [h3, ofLE_leF, Nat.mod_eq_of_lt (by omega), IntKind.wrap_i32]
    omega
/-- A transaction's bytes, whatever stands behind them: read, they are it. -/
theorem dec_enc {t : TTx} (hok : t.Ok) (hb : Bounds t) (hl : (encF t).length ≤ 65536) (more : List Int) :
    decE (encF t ++ more) = 0 ∧ decN (encF t ++ more) = (encF t).length ∧ decT (encF t ++ more) = t ∧ decP9 (encF t ++ more) = ⟨more.take (65536 - (encF t).length), 0⟩ := by
  obtain ⟨hw, h2, h3⟩ := dec_start hok hb hl more
  have hI : decI (encF t ++ more) = rI (decP2 (encF t ++ more)) := rfl
  have hO : decO (encF t ++ more) = rO (decP2 (encF t ++ more)) := rfl
  have hW : decWs (encF t ++ more) = rW (decW (encF t ++ more)) (decP2 (encF t ++ more)) := rfl
  rw [h2] at hI hO
  rw [h2, hw, rW_lay hok hb] at hW
  rw [rO_lay hok hb] at hO
  have h9 : decP9 (encF t ++ more) = ⟨more.take (65536 - (encF t).length), 0⟩ := by
    unfold decP9
    rw [hW]
    exact PSt.take_app _ _ 4 (leF_length 4 _)
  have hT : decT (encF t ++ more) = t := by
    unfold decT
    rw [h3, hW, hO]
    simp only
    rw [PSt.takeB_app _ _ 4 (leF_length 4 _), ofLE_leF4 _ hok.l0 hok.l1]
  refine ⟨?_, ?_, hT, h9⟩
  · have h1 : decE1 (encF t ++ more) = 0 := by
      unfold decE1
      rw [h9]
      rw [if_neg (fun h => by cases h.1)]
    unfold decE
    rw [h1, hW, hO, hw, hT, if_neg]
    have := hb.i0
    have := hb.o0
    rintro ⟨_, h | h | ⟨h, h'⟩⟩
    · simp only at h; omega
    · simp only at h; omega
    · rw [h] at h'; cases h'
  · unfold decN
    rw [h9, List.length_take, List.length_append]
    omega
end Go.Proofs.Ytjlkakggmfmfiaa
