/- The queue of things of one type: what each of its functions does. -/
import Derived.Test.YtglckhjkbgokaaaChecked
import Derived.Test.YtglckhjkbgokaaaQBase
import Derived.Conc.LoneCalls
import Derived.Conc.LoneSelect
import Derived.Conc.LoneSelectN
import Derived.WalkKit
import Derived.KernelRfl
import Derived.Laws.Rows
import Derived.IntWalk
import Derived.Deep.DeepCutAuto
namespace Go.Proofs.Ytglckhjkbgokaaa
open Go Go.RowKit Go.Conc
set_option linter.unusedVariables false
set_option maxRecDepth 100000
noncomputable def drainLoopI : Code := match Try.f26.body with
  | some (.seq _ (.block _ (.loop c))) => c
  | _ => .skip
theorem drain_loopI {Q : Goroutine → World → Prop} (cs : List Frame) (q c cap m : Nat) (hm : m ≤ maxLen) (s : Nat) (cl lo : Bool) : ∀ (xs : List Value) (k r : Nat) (w : World) (j2 j3 j4 j5 j8 j9 j10 j11 j12 j13 j14 : Value) (hk : k + xs.length = m) (hq : w.heap[q]? = some (.cells #[.chan (some c), .bool cl, .bool lo] 61 (0, 0))) (hc : w.heap[c]? = some (.chan cap xs.toArray false s r false))
    (h : ∀ a, a.defers = [] → LoneTo Try.prog Q (G { (base 26).at a [] with mode := .returning } cs) (w.setChan c cap #[] false s (r + xs.length) false)),
    LoneTo Try.prog Q (G ((base 26).at ⟨#[.pointer (some ⟨q, 0, none⟩), undef, j2, j3, j4, j5, .int .i64 m, .int .i64 k, j8, j9, j10, j11, j12, j13, j14], []⟩ [.code drainLoopI, .inLoop drainLoopI, .inBlock 0]) cs) w
  | [], k, r, w, j2, j3, j4, j5, j8, j9, j10, j11, j12, j13, j14, hk, hq, hc, h => by
    obtain rfl : k = m := by simpa using hk
    have hlt : ¬ (k : Int) < (k : Int) := by omega
    refine LoneTo.goes (n := 40) ?_
    simp only [drainLoopI, Try.f26]
    repeat (first | s_c stepG_seq | s_reg | s_op | s_c stepG_region_end | s_c stepG_block | s_c stepG_skip | s_c stepG_inLoop | s_cond true | s_cond false | s_exit)
    s_c stepG_end
    s_stop
    simp only [List.length_nil, Nat.add_zero, setChan_self w c cap s r #[] false false hc] at h
    exact h _ rfl
  | x :: xs, k, r, w, j2, j3, j4, j5, j8, j9, j10, j11, j12, j13, j14, hk, hq, hc, h => by
    have hlt : (k : Int) < (m : Int) := by simp at hk; omega
    have hcell : w.cell? ⟨q, 0, none⟩ = some (.chan (some c)) := by rw [cell_of_row w q 0 _ _ _ hq]; rfl
    refine LoneTo.goes (n := 40) ?_
    simp only [drainLoopI, Try.f26]
    repeat (first | s_c stepG_seq | s_reg | s_op | s_c stepG_region_end | s_c stepG_block | s_c stepG_skip | s_c stepG_inLoop | s_cond true | s_cond false)
    s_stop
    refine LoneTo.step (step_lone_recv_buf (c := c) (z := .int .i64 0) (cap := cap) (buf := (x :: xs).toArray) (closed := false) (s := s) (r := r) (tm := false) false
      (stepG_comm (cases := #[rcase c (.int .i64 0)]) (blocking := true) (shape := .recv false) (w' := w) rfl rfl (by decide) (by simp [go_sem, execOp, rcase, Act.eval])) hc (by simp)) ?_
    rw [Frame.finish_at]
    walk_nrm
    have e1 : IntKind.i64.wrap ((k : Int) + 1) = ((k + 1 : Nat) : Int) := by rw [IntWalk.i64_in _ (by simp at hk; unfold maxLen at hm; omega)]; rfl
    have hcc := heap_setChan w c cap xs.toArray false s (r + 1) false (Array.getElem?_eq_some_iff.1 hc).1
    have hne : c ≠ q := by rintro rfl; rw [hq] at hc; cases hc
    have hqq := (setChan_other w c q cap xs.toArray false s (r + 1) false hne).trans hq
    have e0 : ((x :: xs).toArray.extract 1 (x :: xs).toArray.size) = xs.toArray := by simp
    refine LoneTo.goes (n := 40) ?_
    repeat (first | s_c stepG_seq | s_reg | s_op | s_c stepG_region_end | s_c stepG_inBlock | s_c stepG_skip | s_cond true | s_cond false)
    s_c stepG_inLoop
    s_stop
    exact drain_loopI cs q c cap m hm s cl lo xs (k + 1) (r + 1) _ j2 j3 j4 j5 _ _ _ _ _ _ _ (by simp at hk ⊢; omega) hqq hcc (fun a ha => by have := h a ha; rw [setChan_set]; simpa [Nat.add_assoc, Nat.add_comm 1] using this)
theorem drain_fromI {Q : Goroutine → World → Prop} (cs : List Frame) (w : World) (q c cap : Nat) (xs : List Value) (hm : xs.length ≤ maxLen) (cl lo : Bool) (s r : Nat) (hq : w.heap[q]? = some (.cells #[.chan (some c), .bool cl, .bool lo] 61 (0, 0))) (hc : w.heap[c]? = some (.chan cap xs.toArray false s r false))
    (h : ∀ a, a.defers = [] → LoneTo Try.prog Q (G { (base 26).at a [] with mode := .returning } cs) (w.setChan c cap #[] false s (r + xs.length) false)) :
    LoneTo Try.prog Q (G ((base 26).at ⟨#[.pointer (some ⟨q, 0, none⟩), undef, undef, undef, undef, undef, undef, undef, undef, undef, undef, undef, undef, undef, undef], []⟩ [.code (Try.f26.body.getD .skip)]) cs) w := by
  have hcell : w.cell? ⟨q, 0, none⟩ = some (.chan (some c)) := by rw [cell_of_row w q 0 _ _ _ hq]; rfl
  have hlen := fun ty => run_len_chan (P := Try.prog) 59 ty Try.underlying59 hc
  refine LoneTo.goes (n := 40) ?_
  simp only [Try.f26, Option.getD_some]
  repeat (first | s_c stepG_seq | s_reg | s_op | s_c stepG_region_end | s_c stepG_block | s_cond true | s_cond false)
  s_c stepG_loop
  s_stop
  exact drain_loopI cs q c cap xs.length hm s cl lo xs 0 r w _ _ _ _ _ _ _ _ _ _ _ (by omega) hq hc h
theorem drain_callsI (w : World) (q c cap : Nat) (xs : List Value) (hm : xs.length ≤ maxLen) (cl lo : Bool) (s r : Nat) (hq : w.heap[q]? = some (.cells #[.chan (some c), .bool cl, .bool lo] 61 (0, 0))) (hc : w.heap[c]? = some (.chan cap xs.toArray false s r false)) :
    Calls Try.prog 26 #[.pointer (some ⟨q, 0, none⟩)] w fun e w' => e = .returned (.tuple #[]) ∧ w' = w.setChan c cap #[] false s (r + xs.length) false := by
  refine calls_of_loneTo fun cs => ?_
  have e : Frame.enter Try.prog 26 #[.pointer (some ⟨q, 0, none⟩)] .normal = (base 26).at ⟨#[.pointer (some ⟨q, 0, none⟩), undef, undef, undef, undef, undef, undef, undef, undef, undef, undef, undef, undef, undef, undef], []⟩ [.code (Try.f26.body.getD .skip)] := by
    simp [Frame.enter, Frame.at, Try.func26, base, Try.f26]
  rw [e]
  refine drain_fromI cs w q c cap xs hm cl lo s r hq hc fun a ha => ?_
  refine LoneTo.done ⟨.returned (.tuple #[]), _, rfl, ⟨rfl, rfl⟩, rfl, ?_⟩
  refine ⟨rfl, ha, rfl, _, Try.func26, by simp [results, Try.f26, Frame.at]⟩
theorem take_someI (w : World) (q c cap : Nat) (x : Value) (xs : List Value) (cl lo : Bool) (s r : Nat) (hq : w.heap[q]? = some (.cells #[.chan (some c), .bool cl, .bool lo] 61 (0, 0))) (hc : w.heap[c]? = some (.chan cap (x :: xs).toArray false s r false)) :
    Calls Try.prog 16 #[.pointer (some ⟨q, 0, none⟩)] w fun e w' => e = .returned (.tuple #[x, .bool true]) ∧ w' = w.setChan c cap xs.toArray false s (r + 1) false := by
  have hcell : w.cell? ⟨q, 0, none⟩ = some (.chan (some c)) := by rw [cell_of_row w q 0 _ _ _ hq]; rfl
  refine calls_of_loneTo fun cs => ?_
  have e : Frame.enter Try.prog 16 #[.pointer (some ⟨q, 0, none⟩)] .normal = (base 16).at ⟨#[.pointer (some ⟨q, 0, none⟩), undef, undef, undef, undef, undef, undef, undef, undef, undef, undef, undef, undef, undef, undef, undef, undef, undef, undef], []⟩ [.code (Try.f16.body.getD .skip)] := by
    simp [Frame.enter, Frame.at, Try.func16, base, Try.f16]
  rw [e]
  refine LoneTo.goes (n := 40) ?_
  simp only [Try.f16, Option.getD_some]
  repeat (first | s_c stepG_seq | s_reg | s_op | s_c stepG_region_end | s_c stepG_block | s_c stepG_skip | s_c stepG_inBlock | s_cond true | s_cond false)
  s_stop
  refine LoneTo.step (step_lone_select_recv_buf (c := c) (z := .int .i64 0) (cap := cap) (buf := (x :: xs).toArray) (closed := false) (s := s) (r := r) (tm := false)
    (stepG_comm (cases := #[rcase c (.int .i64 0)]) (blocking := false) (shape := .select) (w' := w) rfl rfl (by decide) (by simp [go_sem, execOp, rcase, Act.eval])) hc (by simp)) ?_
  rw [Frame.finish_at]
  walk_nrm
  refine LoneTo.goes (n := 40) ?_
  repeat (first | s_c stepG_seq | s_reg | s_op | s_c stepG_region_end | s_c stepG_block | s_c stepG_skip | s_c stepG_inBlock | s_cond true | s_cond false | s_c stepG_ret')
  s_stop
  refine LoneTo.done ⟨.returned (.tuple #[x, .bool true]), _, rfl, ⟨rfl, ?_⟩, rfl, rfl, rfl, rfl, _, Try.func16, by simp [results, Try.f16, Frame.at]⟩
  simp
set_option maxHeartbeats 1000000 in
theorem put_roomI (w : World) (q c cap : Nat) (x : Int) (xs : List Value) (lo : Bool) (s r : Nat) (hq : w.heap[q]? = some (.cells #[.chan (some c), .bool false, .bool lo] 61 (0, 0))) (hc : w.heap[c]? = some (.chan cap xs.toArray false s r false)) (hroom : xs.length < cap) :
    Calls Try.prog 14 #[.pointer (some ⟨q, 0, none⟩), Value.int .i64 x] w fun e w' => e = .returned (.int .i64 0) ∧ w' = w.setChan c cap (xs ++ [Value.int .i64 x]).toArray false (s + 1) r false := by
  have hcell : w.cell? ⟨q, 0, none⟩ = some (.chan (some c)) := by rw [cell_of_row w q 0 _ _ _ hq]; rfl
  have hcell1 : w.cell? ⟨q, 1, none⟩ = some (.bool false) := by rw [cell_of_row w q 1 _ _ _ hq]; rfl
  refine calls_of_loneTo fun cs => ?_
  have e : Frame.enter Try.prog 14 #[.pointer (some ⟨q, 0, none⟩), Value.int .i64 x] .normal = (base 14).at ⟨#[.pointer (some ⟨q, 0, none⟩), Value.int .i64 x, undef, undef, undef, undef, undef, undef, undef, undef, undef, undef, undef, undef, undef, undef, undef, undef, undef, undef, undef, undef, undef, undef, undef, undef, undef, undef, undef], []⟩ [.code (Try.f14.body.getD .skip)] := by
    simp [Frame.enter, Frame.at, Try.func14, base, Try.f14]
  rw [e]
  refine LoneTo.goes (n := 60) ?_
  simp only [Try.f14, Option.getD_some]
  repeat (first | s_c stepG_seq | s_reg | s_op | s_c stepG_region_end | s_c stepG_block | s_c stepG_skip | s_c stepG_inBlock | s_cond true | s_cond false)
  s_stop
  refine LoneTo.step (step_lone_select_send_room (c := c) (v := Value.int .i64 x) (z' := .int .i64 0) (cap := cap) (buf := xs.toArray) (s := s) (r := r) (tm := false)
    (stepG_comm (cases := #[scase c (Value.int .i64 x) (.int .i64 0)]) (blocking := false) (shape := .select) (w' := w) rfl rfl (by decide) (by simp [go_sem, execOp, scase, Act.eval])) hc (by simpa using hroom)) ?_
  rw [Frame.finish_at]
  walk_nrm
  refine LoneTo.goes (n := 60) ?_
  repeat (first | s_c stepG_seq | s_reg | s_op | s_c stepG_region_end | s_c stepG_block | s_c stepG_skip | s_c stepG_inBlock | s_cond true | s_cond false | s_c stepG_ret')
  s_stop
  refine LoneTo.done ⟨.returned (.int .i64 0), _, rfl, ⟨rfl, ?_⟩, rfl, rfl, rfl, rfl, _, Try.func14, by simp [results, Try.f14, Frame.at]⟩
  simp
set_option maxHeartbeats 1000000 in
theorem put_fullI (w : World) (q c cap : Nat) (x : Int) (xs : List Value) (hm : xs.length ≤ maxLen) (lo : Bool) (s r : Nat) (hq : w.heap[q]? = some (.cells #[.chan (some c), .bool false, .bool lo] 61 (0, 0))) (hc : w.heap[c]? = some (.chan cap xs.toArray false s r false)) (hfull : cap ≤ xs.length) :
    Calls Try.prog 14 #[.pointer (some ⟨q, 0, none⟩), Value.int .i64 x] w fun e w' => e = .returned (.int .i64 30) ∧ w' = ((w.setCell ⟨q, 1, none⟩ (.bool true)).setCell ⟨q, 2, none⟩ (.bool true)).setChan c cap #[] false s (r + xs.length) false := by
  have hcell : w.cell? ⟨q, 0, none⟩ = some (.chan (some c)) := by rw [cell_of_row w q 0 _ _ _ hq]; rfl
  have hcell1 : w.cell? ⟨q, 1, none⟩ = some (.bool false) := by rw [cell_of_row w q 1 _ _ _ hq]; rfl
  have hcell2 : w.cell? ⟨q, 2, none⟩ = some (.bool lo) := by rw [cell_of_row w q 2 _ _ _ hq]; rfl
  have hf1 : w.frozen? ⟨q, 1, none⟩ = false := by simp [World.frozen?, hq]
  have hf2 : w.frozen? ⟨q, 2, none⟩ = false := by simp [World.frozen?, hq]
  refine calls_of_loneTo fun cs => ?_
  have e : Frame.enter Try.prog 14 #[.pointer (some ⟨q, 0, none⟩), Value.int .i64 x] .normal = (base 14).at ⟨#[.pointer (some ⟨q, 0, none⟩), Value.int .i64 x, undef, undef, undef, undef, undef, undef, undef, undef, undef, undef, undef, undef, undef, undef, undef, undef, undef, undef, undef, undef, undef, undef, undef, undef, undef, undef, undef], []⟩ [.code (Try.f14.body.getD .skip)] := by
    simp [Frame.enter, Frame.at, Try.func14, base, Try.f14]
  rw [e]
  refine LoneTo.goes (n := 60) ?_
  simp only [Try.f14, Option.getD_some]
  repeat (first | s_c stepG_seq | s_reg | s_op | s_c stepG_region_end | s_c stepG_block | s_c stepG_skip | s_c stepG_inBlock | s_cond true | s_cond false)
  s_stop
  refine LoneTo.step (step_lone_select_send_full (c := c) (v := Value.int .i64 x) (z' := .int .i64 0) (cap := cap) (buf := xs.toArray) (s := s) (r := r) (tm := false)
    (stepG_comm (cases := #[scase c (Value.int .i64 x) (.int .i64 0)]) (blocking := false) (shape := .select) (w' := w) rfl rfl (by decide) (by simp [go_sem, execOp, scase, Act.eval])) hc (by simpa using hfull)) ?_
  rw [Frame.finish_at]
  walk_nrm
  refine LoneTo.goes (n := 60) ?_
  repeat (first | s_c stepG_seq | s_reg | s_op | s_c stepG_region_end | s_c stepG_block | s_c stepG_skip | s_c stepG_inBlock | s_cond true | s_cond false)
  s_call Try.func26 (by decide) Try.f26
  s_stop
  have hlt : q < w.heap.size := (Array.getElem?_eq_some_iff.1 hq).1
  have hqq : ((w.setCell ⟨q, 1, none⟩ (.bool true)).setCell ⟨q, 2, none⟩ (.bool true)).heap[q]? = some (.cells #[.chan (some c), .bool true, .bool true] 61 (0, 0)) := by
    have h1 := blk_set hq 1 (.bool true)
    have h2 := blk_set h1 2 (.bool true)
    simpa using h2
  have hne : c ≠ q := by rintro rfl; rw [hq] at hc; cases hc
  have hcc : ((w.setCell ⟨q, 1, none⟩ (.bool true)).setCell ⟨q, 2, none⟩ (.bool true)).heap[c]? = some (.chan cap xs.toArray false s r false) := by
    rw [Below.heap_setCell _ _ _ _ hne, Below.heap_setCell _ _ _ _ hne]; exact hc
  refine drain_fromI _ _ q c cap xs hm true true s r hqq hcc fun a ha => ?_
  obtain ⟨t, _⟩ := a
  obtain rfl := ha
  refine LoneTo.goes (n := 60) ?_
  s_leave0 Try.func26
  repeat (first | s_c stepG_seq | s_reg | s_op | s_c stepG_region_end | s_c stepG_block | s_c stepG_skip | s_c stepG_inBlock | s_cond true | s_cond false | s_c stepG_ret')
  s_stop
  refine LoneTo.done ⟨.returned (.int .i64 30), _, rfl, ⟨rfl, rfl⟩, rfl, rfl, rfl, rfl, _, Try.func14, by simp [results, Try.f14, Frame.at]⟩
/-- The queue at block q, its channel at block c: what waits; has it been closed; has it lost. -/
structure QSI (w : World) (q c cap : Nat) (xs : List Int) (cl lo : Bool) : Prop where
  obj : w.heap[q]? = some (.cells #[.chan (some c), .bool cl, .bool lo] 61 (0, 0))
  ch : ∃ s r, w.heap[c]? = some (.chan cap (xs.map fun x => Value.int .i64 x).toArray false s r false)
section
variable {w w1 : World} {q c cap : Nat} {xs : List Int} {cl lo : Bool}
theorem QSI.ne (h : QSI w q c cap xs cl lo) : c ≠ q := by
  obtain ⟨s, r, hc⟩ := h.ch
  rintro rfl
  rw [h.obj] at hc
  cases hc
theorem QSI.lt (h : QSI w q c cap xs cl lo) : q < w.heap.size ∧ c < w.heap.size := by
  obtain ⟨s, r, hc⟩ := h.ch
  exact ⟨(Array.getElem?_eq_some_iff.1 h.obj).1, (Array.getElem?_eq_some_iff.1 hc).1⟩
theorem QSI.move (h : QSI w q c cap xs cl lo) (hk : ∀ k, k = q ∨ k = c → w1.heap[k]? = w.heap[k]?) : QSI w1 q c cap xs cl lo := by
  obtain ⟨s, r, hc⟩ := h.ch
  exact ⟨(hk q (.inl rfl)).trans h.obj, s, r, (hk c (.inr rfl)).trans hc⟩
theorem QSI.below (h : QSI w q c cap xs cl lo) (hb : Below w.heap.size w w1) : QSI w1 q c cap xs cl lo :=
  h.move fun k hk => hb.block k (hk.elim (fun e => e ▸ h.lt.1) (fun e => e ▸ h.lt.2))
theorem QSI.alloc (h : QSI w q c cap xs cl lo) (o : Obj) : QSI (w.alloc o) q c cap xs cl lo := h.below ((Below.refl _ _).alloc (Nat.le_refl _) o)
theorem QSI.drewN (h : QSI w q c cap xs cl lo) (n : Nat) : QSI (w.drewN n) q c cap xs cl lo := ⟨h.obj, h.ch⟩
theorem QSI.grown {row : Option Nat} (h : QSI w q c cap xs cl lo) (hg : w.grownBy w1 row) (h1 : some q ≠ row) (h2 : some c ≠ row) : QSI w1 q c cap xs cl lo :=
  h.move fun k hk => hg.block k (hk.elim (fun e => e ▸ h.lt.1) (fun e => e ▸ h.lt.2)) (by rcases hk with rfl | rfl <;> assumption)
end
theorem info_elI : ∃ i, Try.prog.info? 3 = some i ∧ i.bytes = 8 := by
  have h : (Try.prog.info? 3).map (·.bytes) = some 8 := by kernel_rfl
  obtain ⟨i, hi, hb⟩ := Option.map_eq_some_iff.1 h
  exact ⟨i, hi, hb⟩
def NewPostI (most : Nat) (w : World) (e : Ending) (w' : World) : Prop := ∃ q c, e = .returned (.tuple #[.pointer (some ⟨q, 0, none⟩), .int .i64 0]) ∧ w.heap.size ≤ q ∧ w.heap.size ≤ c ∧ QSI w' q c most [] false false ∧ Below w.heap.size w w'
theorem new_okI (most : Nat) (w : World) (h1 : 1 ≤ most) (h2 : most ≤ 1000) :
    Calls Try.prog 13 #[.int .i64 most] w (NewPostI most w) := by
  have hmk : (Instr.makeChan 59 (.int .i64 (most : Int))).run Try.prog w = .ok (.chan (some w.heap.size)) (w.alloc (.chan most #[] false 0 0 false)) := by
    obtain ⟨i, hi, hb⟩ := info_elI
    exact run_makeChan (P := Try.prog) (w := w) Try.underlying59 hi .i64 most (by omega) (by rw [hb]; omega)
  have b1 : ¬ (most : Int) < 1 := by omega
  have b2 : ¬ (1000 : Int) < (most : Int) := by omega
  go_enter Try.func13, Try.ntmps13
  go_wp2
  go_ret2
  refine ⟨w.heap.size + 1, w.heap.size, rfl, by omega, by omega, ⟨?_, 0, 0, ?_⟩, ((Below.refl _ _).alloc (Nat.le_refl _) _).alloc (by simp) _⟩
  · have := heap_alloc_new (w.alloc (.chan most #[] false 0 0 false)) (.cells #[.chan (some w.heap.size), .bool false, .bool false] 61)
    simpa only [World.size_alloc] using this
  · exact (Below.heap_alloc _ _ _ (by simp)).trans (heap_alloc_new _ _)
theorem new_badI (most : Int) (w : World) (h1 : most < 1 ∨ 1000 < most) :
    Calls Try.prog 13 #[.int .i64 most] w fun e w' => e = .returned (.tuple #[.pointer none, .int .i64 1]) ∧ w = w' := by
  by_cases hlt : most < 1
  · go_enter Try.func13, Try.ntmps13
    go_wp2
    go_ret2
    exact ⟨rfl, rfl⟩
  · have h2 : 1000 < most := by omega
    go_enter Try.func13, Try.ntmps13
    go_wp2
    go_ret2
    exact ⟨rfl, rfl⟩
section
variable {w : World} {q c cap : Nat} {xs : List Int} {cl lo : Bool}
theorem put_room'I (x : Int) (h : QSI w q c cap xs false lo) (hroom : xs.length < cap) :
    Calls Try.prog 14 #[.pointer (some ⟨q, 0, none⟩), Value.int .i64 x] w fun e w' => e = .returned (.int .i64 0) ∧ QSI w' q c cap (xs ++ [x]) false lo ∧ Two w w' q c := by
  obtain ⟨s, r, hc⟩ := h.ch
  refine (put_roomI w q c cap x _ lo s r h.obj hc (by simpa using hroom)).mono fun e w' ⟨he, hw⟩ => ⟨he, ⟨?_, s + 1, r, ?_⟩, ?_⟩
  · rw [hw]; exact (setChan_other _ _ _ _ _ _ _ _ _ h.ne).trans h.obj
  · rw [hw, List.map_append]; exact heap_setChan _ _ _ _ _ _ _ _ h.lt.2
  · rw [hw]; exact (Two.refl _ _ _).setChan _ _ _ _ _ _
theorem put_full'I (x : Int) (h : QSI w q c cap xs false lo) (hm : xs.length ≤ maxLen) (hfull : cap ≤ xs.length) :
    Calls Try.prog 14 #[.pointer (some ⟨q, 0, none⟩), Value.int .i64 x] w fun e w' => e = .returned (.int .i64 30) ∧ QSI w' q c cap [] true true ∧ Two w w' q c := by
  obtain ⟨s, r, hc⟩ := h.ch
  refine (put_fullI w q c cap x _ (by simpa using hm) lo s r h.obj hc (by simpa using hfull)).mono fun e w' ⟨he, hw⟩ => ⟨he, ⟨?_, s, r + (xs.map fun x => Value.int .i64 x).length, ?_⟩, ?_⟩
  · rw [hw]
    refine (setChan_other _ _ _ _ _ _ _ _ _ h.ne).trans ?_
    have := blk_set (blk_set h.obj 1 (.bool true)) 2 (.bool true)
    simpa using this
  · rw [hw]; exact heap_setChan _ _ _ _ _ _ _ _ (by simp; exact h.lt.2)
  · rw [hw]; exact (((Two.refl _ _ _).setCell _ _).setCell _ _).setChan _ _ _ _ _ _
theorem put_closed'I (x : Int) (h : QSI w q c cap xs true lo) :
    Calls Try.prog 14 #[.pointer (some ⟨q, 0, none⟩), Value.int .i64 x] w fun e w' => e = .returned (.int .i64 7) ∧ w = w' := by
  have hcell1 : w.cell? ⟨q, 1, none⟩ = some (.bool true) := by rw [cell_of_row w q 1 _ _ _ h.obj]; rfl
  go_enter Try.func14, Try.ntmps14
  go_wp2
  go_ret
  exact ⟨rfl, rfl⟩
theorem put_nil'I (x : Int) (w : World) :
    Calls Try.prog 14 #[.pointer none, Value.int .i64 x] w fun e w' => e = .returned (.int .i64 1) ∧ w = w' := by
  go_enter Try.func14, Try.ntmps14
  go_wp2
  go_ret
  exact ⟨rfl, rfl⟩
theorem take_some'I {x : Int} (h : QSI w q c cap (x :: xs) cl lo) :
    Calls Try.prog 16 #[.pointer (some ⟨q, 0, none⟩)] w fun e w' => e = .returned (.tuple #[Value.int .i64 x, .bool true]) ∧ QSI w' q c cap xs cl lo ∧ Two w w' q c := by
  obtain ⟨s, r, hc⟩ := h.ch
  refine (take_someI w q c cap (Value.int .i64 x) (xs.map fun x => Value.int .i64 x) cl lo s r h.obj hc).mono fun e w' ⟨he, hw⟩ => ⟨he, ⟨?_, s, r + 1, ?_⟩, ?_⟩
  · rw [hw]; exact (setChan_other _ _ _ _ _ _ _ _ _ h.ne).trans h.obj
  · rw [hw]; exact heap_setChan _ _ _ _ _ _ _ _ h.lt.2
  · rw [hw]; exact (Two.refl _ _ _).setChan _ _ _ _ _ _
theorem take_none'I (h : QSI w q c cap [] cl lo) :
    Calls Try.prog 16 #[.pointer (some ⟨q, 0, none⟩)] w fun e w' => e = .returned (.tuple #[.int .i64 0, .bool false]) ∧ w = w' := by
  obtain ⟨s, r, hc⟩ := h.ch
  have hq := h.obj
  have hcell : w.cell? ⟨q, 0, none⟩ = some (.chan (some c)) := by rw [cell_of_row w q 0 _ _ _ hq]; rfl
  refine calls_of_loneTo fun cs => ?_
  have e : Frame.enter Try.prog 16 #[.pointer (some ⟨q, 0, none⟩)] .normal = (base 16).at ⟨#[.pointer (some ⟨q, 0, none⟩), undef, undef, undef, undef, undef, undef, undef, undef, undef, undef, undef, undef, undef, undef, undef, undef, undef, undef], []⟩ [.code (Try.f16.body.getD .skip)] := by
    simp [Frame.enter, Frame.at, Try.func16, base, Try.f16]
  rw [e]
  refine LoneTo.goes (n := 40) ?_
  simp only [Try.f16, Option.getD_some]
  repeat (first | s_c stepG_seq | s_reg | s_op | s_c stepG_region_end | s_c stepG_block | s_c stepG_skip | s_c stepG_inBlock | s_cond true | s_cond false)
  s_stop
  refine LoneTo.step (step_lone_select_default (c := c) (z := .int .i64 0) (cap := cap) (s := s) (r := r) (tm := false)
    (stepG_comm (cases := #[rcase c (.int .i64 0)]) (blocking := false) (shape := .select) (w' := w) rfl rfl (by decide) (by simp [go_sem, execOp, rcase, Act.eval])) hc) ?_
  rw [Frame.finish_at]
  walk_nrm
  refine LoneTo.goes (n := 40) ?_
  repeat (first | s_c stepG_seq | s_reg | s_op | s_c stepG_region_end | s_c stepG_block | s_c stepG_skip | s_c stepG_inBlock | s_cond true | s_cond false | s_c stepG_ret')
  s_stop
  refine LoneTo.done ⟨.returned (.tuple #[.int .i64 0, .bool false]), _, rfl, ⟨rfl, rfl⟩, rfl, rfl, rfl, rfl, _, Try.func16, by simp [results, Try.f16, Frame.at]⟩
theorem take_nil'I (w : World) :
    Calls Try.prog 16 #[.pointer none] w fun e w' => e = .returned (.tuple #[.int .i64 0, .bool false]) ∧ w = w' := by
  go_enter Try.func16, Try.ntmps16
  go_wp2
  go_ret2
  exact ⟨rfl, rfl⟩
end
section
variable {w : World} {q c cap : Nat} {xs : List Int} {cl lo : Bool}
theorem len'I (h : QSI w q c cap xs cl lo) :
    Calls Try.prog 17 #[.pointer (some ⟨q, 0, none⟩)] w fun e w' => e = .returned (.int .i64 xs.length) ∧ w = w' := by
  obtain ⟨s, r, hc⟩ := h.ch
  have hcell : w.cell? ⟨q, 0, none⟩ = some (.chan (some c)) := by rw [cell_of_row w q 0 _ _ _ h.obj]; rfl
  have hlen := fun ty => run_len_chan (P := Try.prog) 59 ty Try.underlying59 hc
  go_enter Try.func17, Try.ntmps17
  go_wp2
  go_ret
  exact ⟨by simp, rfl⟩
theorem len_nil'I (w : World) :
    Calls Try.prog 17 #[.pointer none] w fun e w' => e = .returned (.int .i64 0) ∧ w = w' := by
  go_enter Try.func17, Try.ntmps17
  go_wp2
  go_ret
  exact ⟨rfl, rfl⟩
theorem closed'I (h : QSI w q c cap xs cl lo) :
    Calls Try.prog 18 #[.pointer (some ⟨q, 0, none⟩)] w fun e w' => e = .returned (.bool cl) ∧ w = w' := by
  have hcell1 : w.cell? ⟨q, 1, none⟩ = some (.bool cl) := by rw [cell_of_row w q 1 _ _ _ h.obj]; rfl
  go_enter Try.func18, Try.ntmps18
  go_wp2
  go_ret
  exact ⟨rfl, rfl⟩
theorem closed_nil'I (w : World) :
    Calls Try.prog 18 #[.pointer none] w fun e w' => e = .returned (.bool true) ∧ w = w' := by
  go_enter Try.func18, Try.ntmps18
  go_wp2
  go_ret
  exact ⟨rfl, rfl⟩
theorem lost'I (h : QSI w q c cap xs cl lo) :
    Calls Try.prog 19 #[.pointer (some ⟨q, 0, none⟩)] w fun e w' => e = .returned (.bool lo) ∧ w = w' := by
  have hcell1 : w.cell? ⟨q, 2, none⟩ = some (.bool lo) := by rw [cell_of_row w q 2 _ _ _ h.obj]; rfl
  go_enter Try.func19, Try.ntmps19
  go_wp2
  go_ret
  exact ⟨rfl, rfl⟩
theorem lost_nil'I (w : World) :
    Calls Try.prog 19 #[.pointer none] w fun e w' => e = .returned (.bool false) ∧ w = w' := by
  go_enter Try.func19, Try.ntmps19
  go_wp2
  go_ret
  exact ⟨rfl, rfl⟩
theorem close_open'I (h : QSI w q c cap xs false lo) (hm : xs.length ≤ maxLen) :
    Calls Try.prog 15 #[.pointer (some ⟨q, 0, none⟩)] w fun e w' => e = .returned (.tuple #[]) ∧ QSI w' q c cap [] true lo ∧ Two w w' q c := by
  obtain ⟨s, r, hc⟩ := h.ch
  have hcell1 : w.cell? ⟨q, 1, none⟩ = some (.bool false) := by rw [cell_of_row w q 1 _ _ _ h.obj]; rfl
  have hf1 : w.frozen? ⟨q, 1, none⟩ = false := by simp [World.frozen?, h.obj]
  have hq1 : (w.setCell ⟨q, 1, none⟩ (.bool true)).heap[q]? = some (.cells #[.chan (some c), .bool true, .bool lo] 61 (0, 0)) := by
    have := blk_set h.obj 1 (.bool true)
    simpa using this
  have hc1 : (w.setCell ⟨q, 1, none⟩ (.bool true)).heap[c]? = some (.chan cap (xs.map fun x => Value.int .i64 x).toArray false s r false) := (Below.heap_setCell _ _ _ _ h.ne).trans hc
  go_enter Try.func15, Try.ntmps15
  go_wp2_with fail
  refine (drain_callsI _ q c cap _ (by simpa using hm) true lo s r hq1 hc1).mono ?_
  rintro e w1 ⟨rfl, rfl⟩
  go_wp2
  go_end0
  refine ⟨rfl, ⟨?_, s, r + xs.length, ?_⟩, ?_⟩
  · exact (setChan_other _ _ _ _ _ _ _ _ _ h.ne).trans hq1
  · exact heap_setChan _ _ _ _ _ _ _ _ (by simp; exact h.lt.2)
  · exact ((Two.refl _ _ _).setCell _ _).setChan _ _ _ _ _ _
theorem close_closed'I (h : QSI w q c cap xs true lo) :
    Calls Try.prog 15 #[.pointer (some ⟨q, 0, none⟩)] w fun e w' => e = .returned (.tuple #[]) ∧ w = w' := by
  have hcell1 : w.cell? ⟨q, 1, none⟩ = some (.bool true) := by rw [cell_of_row w q 1 _ _ _ h.obj]; rfl
  go_enter Try.func15, Try.ntmps15
  go_wp2
  go_end0
  exact ⟨rfl, rfl⟩
theorem close_nil'I (w : World) :
    Calls Try.prog 15 #[.pointer none] w fun e w' => e = .returned (.tuple #[]) ∧ w = w' := by
  go_enter Try.func15, Try.ntmps15
  go_wp2
  go_end0
  exact ⟨rfl, rfl⟩
end
theorem infoAI : (Try.prog.info? 3).map (fun i => (i.zero, i.size, i.bytes)) = some (some (.int .i64 0), 1, 8) := by kernel_rfl
theorem QSI.apart {w : World} {q c cap : Nat} {xs : List Int} {cl lo : Bool} (h : QSI w q c cap xs cl lo) {base n : Nat} {e : TypeId} {size : Nat} {v : Value} {ys : List Value} (ho : w.ownsRow base e size v n ys) (hne : e ≠ 61) : ∀ k, v.ownBlock = some k → k ≠ q ∧ k ≠ c := by
  obtain ⟨s, r, hc⟩ := h.ch
  exact own_apart ho h.obj hne hc
def AllPostI (w : World) (q c cap : Nat) (xs : List Int) (cl lo : Bool) (e : Ending) (w' : World) : Prop :=
  ∃ A k, e = .returned (.slice A xs.length k) ∧ QSI w' q c cap [] cl lo ∧ w'.ownsRow w.heap.size 3 1 (.slice A xs.length k) xs.length (xs.map fun x => Value.int .i64 x) ∧ Two w w' q c
section
variable {w : World} {q c cap : Nat} {xs : List Int} {cl lo : Bool}
theorem all_nil'I (w : World) :
    Calls Try.prog 20 #[.pointer none] w fun e w' => e = .returned (.slice none 0 0) ∧ w = w' := by
  go_enter Try.func20, Try.ntmps20
  go_wp2
  refine wp_loop_rounds 1 ?_
  rw [rounds_succ]
  go_wp2_with (go_at_call 16; refine (take_nil'I _).mono ?_; rintro e w' ⟨rfl, rfl⟩)
  go_ret
  exact ⟨rfl, rfl⟩
def lenWI : Value → Nat
  | .slice _ n _ => n
  | _ => 0
set_option maxHeartbeats 1000000 in
theorem all'I (h : QSI w q c cap xs cl lo) (hm : xs.length ≤ 100000) :
    Calls Try.prog 20 #[.pointer (some ⟨q, 0, none⟩)] w (AllPostI w q c cap xs cl lo) := by
  obtain ⟨n, hn⟩ : ∃ n, n = xs.length := ⟨_, rfl⟩
  have HN := Lib.hid hn
  go_enter Try.func20, Try.ntmps20
  go_wp2
  go_loopw [3] (fun v wr => ∃ (A : Option Addr) (k cp : Nat) (ys zs : List Int), ys ++ zs = xs ∧ ys.length = k ∧ v = .slice A k cp ∧ QSI wr q c cap zs cl lo ∧ wr.ownsRow w.heap.size 3 1 (.slice A k cp) k (ys.map fun x => Value.int .i64 x) ∧ Two w wr q c) (fun v _ => xs.length - lenWI v)
  case atStart => exact ⟨none, 0, 0, [], xs, rfl, rfl, rfl, h, World.ownsRow_nil _ _ _ _, Two.refl _ _ _⟩
  case round =>
    clear h hn
    obtain ⟨A, k, cp, ys, zs, hyz, hk, rfl, hQ, hown, hT⟩ := hrel
    have HYZ := Lib.hid hyz
    have HK := Lib.hid hk
    have hkl : k ≤ xs.length := by rw [← hyz, List.length_append]; omega
    have hTs := hT.size
    clear hyz hk
    cases zs with
    | nil =>
      go_wp2_with (go_at_call 16; refine (take_none'I hQ).mono ?_; rintro e w' ⟨rfl, rfl⟩)
      go_ret
      have hk2 : k = xs.length := by rw [← HYZ.out, ← HK.out]; simp
      have hy2 : ys = xs := by rw [← HYZ.out]; simp
      subst hy2
      subst hk2
      exact ⟨A, cp, rfl, hQ, hown, hT⟩
    | cons x zs =>
      have hlt : k < xs.length := by rw [← HYZ.out, List.length_append, HK.out]; simp
      go_upto_region 3 with (go_at_call 16; refine (take_some'I hQ).mono ?_; rintro e w1 ⟨rfl, hQ1, hT1⟩)
      have hown1 := hT1.own hown (hQ.apart hown (by decide))
      have hs1 := hT1.size
      go_wp2_with (first | (refine wpList_app _ rfl (.tmp 14) (.tmp 16) 31 rfl w.heap.size 3 _ 8 Try.underlying31 infoAI rfl _ k (ys.map fun x => Value.int .i64 x) rfl (hown1.alloc _) _ 1 1 [Value.int .i64 x] rfl (Rd.of_block0 (heap_alloc_new _ _)) (by simp [Value.oneCell']) (by unfold maxLen; omega) (by omega) (by simp; omega) ?_; intro A2 c2 w2 hown2 hgrow2 hat2))
      have hQ2 := hQ1.alloc (.cells #[Value.int .i64 x] 3)
      have hne := hQ2.apart (hown1.alloc (.cells #[Value.int .i64 x] 3)) (by decide)
      have hQ3 := hQ2.grown hgrow2 (fun e => (hne _ e.symm).1 rfl) (fun e => (hne _ e.symm).2 rfl)
      have hT3 := ((hT.trans hT1).alloc (.cells #[Value.int .i64 x] 3)).grown hgrow2 (fun k hk => own_base (hown1.alloc (.cells #[Value.int .i64 x] 3)) k hk)
      clear hQ1 hQ2 hne hgrow2 hat2 hT1
      go_roundw
      case rel => exact ⟨A2, k + 1, c2, ys ++ [x], zs, by rw [List.append_assoc]; exact HYZ.out, by rw [List.length_append, HK.out]; rfl, rfl, hQ3, by rw [List.map_append]; exact hown2, hT3⟩
      case measure => simp [lenWI]; omega
end
end Go.Proofs.Ytglckhjkbgokaaa
