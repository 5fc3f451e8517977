/- A transaction without its witnesses, and with another one: its bytes without witnesses are the same. -/
import Derived.Test.YtjlkakggmfmfiaaDoorPlain07
import Derived.Test.YtjlkakggmfmfiaaDoorTxId
import Derived.Test.YtjlkakggmfmfiaaDoorBase
import Derived.Test.YtjlkakggmfmfiaaDoorTxOk
set_option maxRecDepth 100000
set_option linter.unusedVariables false
namespace Go.Proofs.YtjlkakggmfmfiaaDoor
open Go Go.RowKit
theorem RK.Own.keep_ {α : Type} {d : RK α} {w w' : World} {base n : Nat} {e : TypeId} {v : Value} {xs : List α} (h : d.Own (fun _ => False) w base e v n xs) (hs : w'.heap.size = w.heap.size) (hb : ∀ q, v.ownBlock = some q → w'.heap[q]? = w.heap[q]?) : d.Own (fun _ => False) w' base e v n xs := by
  obtain ⟨hl, cells, ⟨hcl, how⟩, hc⟩ := h
  refine ⟨hl, cells, ⟨hcl, ?_⟩, fun i x hx => ?_⟩
  · rcases how with ⟨hv, h0⟩ | ⟨g, cap, cur, hv, hbb, hgg, hrest⟩
    · exact .inl ⟨hv, h0⟩
    · refine .inr ⟨g, cap, cur, hv, hbb, ?_, hrest⟩
      rw [hb g (by rw [hv]; rfl)]
      exact hgg
  · obtain ⟨cs, hK, hcs⟩ := hc i x hx
    exact ⟨cs, d.move (fun k hk => hk.elim) hK, hcs⟩
def bareT (t : TTx) : TTx := { t with ins := t.ins.map TIn.bare }
def otherI (ws : List ByteArray) : List TIn → List TIn
  | [] => []
  | x :: r => { x with wit := ws } :: r
def otherT (t : TTx) (ws : List ByteArray) : TTx := { t with ins := otherI ws (t.ins.map TIn.bare) }
theorem lay_bare : ∀ (xs : List TIn), (xs.map TIn.bare).flatMap layIn = xs.flatMap layIn
  | [] => rfl
  | x :: xs => by
    rw [List.map_cons, List.flatMap_cons, List.flatMap_cons, lay_bare xs]
    rfl
theorem lay_other (ws : List ByteArray) : ∀ (xs : List TIn), (otherI ws xs).flatMap layIn = xs.flatMap layIn
  | [] => rfl
  | x :: xs => by
    rw [otherI, List.flatMap_cons, List.flatMap_cons]
    rfl
theorem otherI_length (ws : List ByteArray) : ∀ (xs : List TIn), (otherI ws xs).length = xs.length
  | [] => rfl
  | x :: xs => rfl
theorem layF_bare (t : TTx) : layF (bareT t) false = layF t false := by
  simp only [layF, bareT, lay_bare, List.length_map, Bool.false_eq_true, if_false]
theorem layF_other (t : TTx) (ws : List ByteArray) : layF (otherT t ws) false = layF t false := by
  simp only [layF, otherT, lay_other, lay_bare, otherI_length, List.length_map, Bool.false_eq_true, if_false]
theorem bare_hasWit (t : TTx) : (bareT t).hasWit = false := any_bare _ (fun x hx => by
  obtain ⟨y, _, rfl⟩ := List.mem_map.1 hx
  rfl)
theorem bare_bounds {t : TTx} (h : Bounds t) : Bounds (bareT t) := by
  refine ⟨?_, h.o0, ?_, h.o1, fun x hx => ?_, h.outs⟩
  · show 0 < (t.ins.map TIn.bare).length
    rw [List.length_map]; exact h.i0
  · show (t.ins.map TIn.bare).length ≤ 1024
    rw [List.length_map]; exact h.i1
  · obtain ⟨y, hy, rfl⟩ := List.mem_map.1 hx
    exact ⟨by simp [TIn.bare], (h.ins y hy).2.1, fun s hs => by cases hs⟩
theorem bare_enc {t : TTx} (h : Bounds t) : encF (bareT t) = layF t false ∧ (encErr (bareT t) = 0 ∨ encErr (bareT t) = 6) := by
  refine ⟨by unfold encF; rw [bare_hasWit, layF_bare], ?_⟩
  unfold encErr
  rw [if_neg (by rw [checkF_of (bare_bounds h)]; decide)]
  split
  · exact .inr rfl
  · exact .inl rfl
theorem bare_ok {x : TIn} (h : x.Ok) : x.bare.Ok := ⟨h.idl, h.idb, h.o0, h.o1, h.s0, h.s1, h.sc, fun s hs => by cases hs⟩
theorem ilen_h (xs : List Int) (h : xs.length = 32) : (Tryd.prog.info? 25).map (·.size) = some (nums .u8 xs).length := by rw [nums_length, h]; exact info_hash
/-- The other inputs: the first one's witness is another row of texts. -/
theorem other_C {S : Nat → Prop} {w : World} {g N : Nat} {xs : List TIn} (ws : List ByteArray) (Aw : Option Addr) (nw cw : Nat) (h1 : nw ≤ cw) (h2 : cw ≤ maxLen) (hW : RK.str.C S w Aw nw ws) (hok : ∀ x ∈ xs, x.Ok) (hr : RowW w g xs ((List.replicate N (.slice none 0 0)).set 0 (.slice Aw nw cw)))
    (hl : ((List.replicate N (Value.slice none 0 0)).set 0 (.slice Aw nw cw)).length = xs.length) (hS : S g) (hb : (xs.map TIn.bare) = xs) : inK.C S w (some ⟨g, 0, none⟩) (otherI ws xs).length (otherI ws xs) := by
  refine hr.toK hl hS (otherI ws xs) (otherI_length ws xs) (fun i x y v hx hy hv => ?_) (fun x hx => (hok x hx).idl)
  have hxo := hok x (List.mem_of_getElem? hx)
  rcases xs with _ | ⟨x0, r⟩
  · simp at hx
  rcases i with _ | i
  · obtain rfl : x0 = x := by simpa using hx
    obtain rfl : ({ x0 with wit := ws } : TIn) = y := by simpa [otherI] using hy
    have hv' : Value.slice Aw nw cw = v := by
      rw [List.getElem?_set_self (by rw [List.length_set, List.length_replicate] at hl; rw [List.length_replicate, hl]; simp)] at hv
      exact Option.some.inj hv
    subst hv'
    exact ⟨_, ⟨Aw, nw, cw, rfl, ⟨hxo.idl, hxo.idb, hxo.o0, hxo.o1, hxo.s0, hxo.s1, hxo.sc, hW.all_str⟩, h1, h2, hW⟩, rfl⟩
  · obtain rfl : x = y := by
      have h1 : r[i]? = some x := by simpa using hx
      have h2 : r[i]? = some y := by simpa [otherI] using hy
      exact Option.some.inj (h1.symm.trans h2)
    rw [List.getElem?_set_ne (by omega), List.getElem?_replicate] at hv
    split at hv
    · obtain rfl := Option.some.inj hv
      have hw : x.wit = [] := by
        have h1 : r.map TIn.bare = r := by simpa using (List.cons.inj hb).2
        have h2 : x ∈ r := List.mem_of_getElem? (by simpa using hx)
        rw [← h1] at h2
        obtain ⟨z, _, rfl⟩ := List.mem_map.1 h2
        rfl
      exact ⟨_, ⟨none, 0, 0, rfl, hxo, Nat.le_refl _, Nat.zero_le _, by rw [hw]; exact RK.C.nil _ _ _ _⟩, rfl⟩
    · cases hv
theorem bare_bare : ∀ (xs : List TIn), (xs.map TIn.bare).map TIn.bare = xs.map TIn.bare
  | [] => rfl
  | x :: xs => by
    rw [List.map_cons, List.map_cons, bare_bare xs]
    rfl
theorem same_hash (xs : List Int) (hx : xs.length = 32) (W : World) : (Op.equalIn 10000 25 (.agg (nums .u8 xs).toArray) (.agg (nums .u8 xs).toArray)).run Tryd.prog W = .ok true W := by
  rw [run_equalIn_nums (P := Tryd.prog) W 9998 25 5 32 .u8 .u8 Tryd.underlying25 Tryd.underlying5 info_u8 xs xs hx hx, beq_self_eq_true]
end Go.Proofs.YtjlkakggmfmfiaaDoor
