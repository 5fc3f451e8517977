/- A small block: how many bytes its transactions have; its errors, one by one. -/
import Derived.Test.YtclkgflficlmiaaDoorBig08
set_option linter.unusedVariables false
namespace Go.Proofs.YtclkgflficlmiaaDoor
open Go Go.RowKit
theorem flat_len {α : Type} (f : α → List Int) (m : Nat) : ∀ (xs : List α), (∀ x ∈ xs, (f x).length ≤ m) → (xs.flatMap f).length ≤ xs.length * m
  | [], _ => by simp
  | x :: xs, h => by
    have h1 := h x (by simp)
    have h2 := flat_len f m xs (fun y hy => h y (by simp [hy]))
    rw [List.flatMap_cons, List.length_append, List.length_cons, Nat.add_mul, Nat.one_mul]
    omega
theorem text_small {s : ByteArray} (h : s.size ≤ 300) : (textF s).length ≤ 303 := by
  unfold textF
  rw [List.length_append, bytesOf_length, compF_length]
  split
  · omega
  · rw [if_pos (by omega)]; omega
theorem small_in {x : TIn} (hid : x.id.length = 32) (h : SmallI x) : (layIn x).length ≤ 343 := by
  have := text_small h.sc
  unfold layIn
  simp only [List.length_append, leF_length, hid]
  omega
theorem small_wit {x : TIn} (h : SmallI x) : (layWit x).length ≤ 1516 := by
  have h1 := flat_len textF 303 x.wit (fun s hs => text_small (h.wit s hs))
  have h2 := h.wl
  unfold layWit
  rw [List.length_append, compF_length, if_pos (by omega)]
  omega
theorem small_len {t : TTx} (hok : t.Ok) (h : SmallT t) : (encF t).length ≤ 21712 := by
  have h1 := flat_len layIn 343 t.ins (fun x hx => small_in (hok.ins x hx).idl (h.ins x hx))
  have h2 := flat_len layWit 1516 t.ins (fun x hx => small_wit (h.ins x hx))
  have h3 := flat_len layOut 311 t.outs (fun x hx => by
    have := text_small (h.outs x hx)
    unfold layOut
    simp only [List.length_append, leF_length]
    omega)
  have h4 := h.il
  have h5 := h.ol
  have c1 : (compF t.ins.length).length = 1 := by rw [compF_length, if_pos (by omega)]
  have c2 : (compF t.outs.length).length = 1 := by rw [compF_length, if_pos (by omega)]
  unfold encF layF
  simp only [List.length_append, leF_length, c1, c2]
  split <;> simp only [List.length_cons, List.length_nil] <;> omega
theorem small_lines : ∀ (ts : List TTx), (∀ t ∈ ts, t.Ok) → (∀ t ∈ ts, SmallT t) → (linesF ts).length ≤ ts.length * 21712 := fun ts h1 h2 => flat_len encF 21712 ts (fun t ht => small_len (h1 t ht) (h2 t ht))
/-- The first error of transactions. -/
def firstE : List TTx → Int
  | [] => 0
  | t :: r => if encErr t ≠ 0 then encErr t else firstE r
theorem firstE_add : ∀ (ts : List TTx) (x : TTx), firstE (ts ++ [x]) = if firstE ts = 0 then encErr x else firstE ts
  | [], x => by
    simp only [List.nil_append, firstE, if_true]
    split
    · rfl
    · rename_i h; exact (Decidable.byContradiction h).symm
  | t :: ts, x => by
    rw [List.cons_append, firstE, firstE, firstE_add ts x]
    by_cases ht : encErr t = 0
    · simp only [ne_eq, ht, not_true_eq_false, if_false]
    · simp only [ne_eq, ht, not_false_eq_true, if_true, if_false]
theorem firstE_take {ts : List TTx} {k : Nat} {x : TTx} (hx : ts[k]? = some x) : firstE (ts.take (k + 1)) = if firstE (ts.take k) = 0 then encErr x else firstE (ts.take k) := by
  rw [List.take_add_one, hx]
  exact firstE_add _ x
theorem firstE_zero : ∀ (ts : List TTx), firstE ts = 0 → ∀ t ∈ ts, encErr t = 0
  | [], _, t, ht => by cases ht
  | t :: ts, h, y, hy => by
    rw [firstE] at h
    split at h
    · rename_i h1; exact absurd h h1
    · rename_i h1
      rcases List.mem_cons.1 hy with rfl | hy
      · exact Decidable.byContradiction h1
      · exact firstE_zero ts h y hy
theorem encBE_first : ∀ (ts : List TTx) (L : Nat), (∀ t ∈ ts, t.Ok) → (∀ t ∈ ts, SmallT t) → L + ts.length * 21712 ≤ 262144 → encBE ts L = firstE ts
  | [], _, _, _, _ => rfl
  | t :: ts, L, h1, h2, hl => by
    have hs := small_len (h1 t (by simp)) (h2 t (by simp))
    rw [List.length_cons, Nat.add_mul, Nat.one_mul] at hl
    rw [encBE, firstE]
    split
    · rfl
    · rw [if_neg (by omega)]
      exact encBE_first ts _ (fun x hx => h1 x (by simp [hx])) (fun x hx => h2 x (by simp [hx])) (by omega)
theorem small_err {ts : List TTx} (h1 : ∀ t ∈ ts, t.Ok) (h : SmallB ts) : encBErr ts = firstE ts := by
  have hl := h.len
  unfold encBErr
  rw [if_neg (by omega), compF_length, if_pos (by omega)]
  exact encBE_first ts _ h1 h.all (by omega)
/-- What a transaction that has bytes adds. -/
def encZ (t : TTx) : List Int := if encErr t = 0 then encF t else []
theorem encZ_fit (ts : List TTx) (h : ∀ t ∈ ts, encErr t = 0) : ts.flatMap encZ = linesF ts := by
  unfold linesF
  induction ts with
  | nil => rfl
  | cons t ts ih =>
    rw [List.flatMap_cons, List.flatMap_cons, ih (fun x hx => h x (by simp [hx])), encZ, if_pos (h t (by simp))]
end Go.Proofs.YtclkgflficlmiaaDoor
