/- append of a text, and tx.text. -/
import Derived.Test.YtclkgflficlmiaaDoorComp
import Derived.Test.YtclkgflficlmiaaDoorBase
import Derived.Test.YtclkgflficlmiaaDoorTxLaw
import Derived.Lib.AppendStr
set_option maxRecDepth 100000
set_option linter.unusedVariables false
namespace Go.Proofs.YtclkgflficlmiaaDoor
open Go Go.RowKit
theorem strCells_nums (s : ByteArray) : Lib.strCells s = nums .u8 (bytesOf s) := by simp [Lib.strCells, nums, bytesOf]
section
variable {P : Program} (w : World)
theorem run_appS (base : Nat) (t u ty e : TypeId) (ht : P.underlying t = some (.slice e)) (hu : P.underlying u = some .string) (hinfo : (P.info? e).map (fun i => (i.zero, i.size, i.bytes)) = some (some (.int .u8 0), 1, 1))
    (v : Value) (n : Nat) (xs : List Int) (hown : w.ownsRow base e 1 v n (nums .u8 xs)) (s : ByteArray) (h63 : n + s.size ≤ maxLen) (hbytes : n + s.size ≤ 140737488355328) (hbase : base ≤ w.heap.size) :
    ∃ A' c' w', (Builtin.append_ #[t, u] ty #[v, .string s]).run P w = .ok (.slice A' (n + s.size) c') w' ∧ w'.ownsRow base e 1 (.slice A' (n + s.size) c') (n + s.size) (nums .u8 (xs ++ bytesOf s)) ∧ w.grownBy w' v.ownBlock ∧
      ((Value.slice A' (n + s.size) c').ownBlock = v.ownBlock ∨ (Value.slice A' (n + s.size) c').ownBlock = some w.heap.size) := by
  obtain ⟨i, hi, hz, hsize, hby⟩ : ∃ i, P.info? e = some i ∧ i.zero = some (.int .u8 0) ∧ i.size = 1 ∧ i.bytes = 1 := by
    cases h : P.info? e with
    | none => rw [h] at hinfo; cases hinfo
    | some i => rw [h] at hinfo; simp only [Option.map_some, Option.some.injEq, Prod.mk.injEq] at hinfo; exact ⟨i, rfl, hinfo.1, hinfo.2.1, hinfo.2.2⟩
  obtain ⟨v', w', hrun, h2, h3, h4⟩ := Lib.run_append_own_string (P := P) w base t u ty e i ht hu hi hz hsize hby v n _ hown s h63 hbytes hbase
  rw [strCells_nums, ← nums_append] at h2
  obtain ⟨A', c', rfl⟩ := own_slice h2
  refine ⟨A', c', w', hrun, h2, h3, ?_⟩
  have hsmall : n + s.size ≤ 9223372036854775807 := by simp only [maxLen] at h63; omega
  rcases hown.2 with ⟨rfl, rfl⟩ | ⟨g, cap, cur, rfl, hbg, hg, hnc, hcm, hcs, htake⟩
  · by_cases hm : s.size = 0
    · exact .inl (congrArg Value.ownBlock (h4.2 ⟨rfl, hm⟩))
    · have hr := run_append_nil_string (P := P) w t u ty e i (.int .u8 0) ht hu hi hz s (by omega) (by omega) (by rw [hby]; omega)
      rw [hrun] at hr
      injection hr with e1 _
      rw [e1]
      exact .inr rfl
  · by_cases hroom : n + s.size ≤ cap
    · have hcs' : cur.size = cap := by simpa using hcs
      have hr := Lib.run_append_room_string (P := P) w t u ty e i ht hu hi hsize g n cap cur hg s hroom (by omega)
      rw [hrun] at hr
      injection hr with e1 _
      rw [e1]
      exact .inl rfl
    · have hxl : (nums .u8 xs).length = n := by simpa using hown.1
      have holds : ∀ j u, (nums .u8 xs)[j]? = some u → w.cell? ((⟨g, 0, none⟩ : Addr).add j) = some u := hown.cells (g := g) rfl
      have hr := Lib.run_append_grow_string (P := P) w t u ty e i (.int .u8 0) ht hu hi hz ⟨g, 0, none⟩ n cap (nums .u8 xs) (by rw [hsize]; simpa using hxl) holds s (by omega) (by omega) (by rw [hby]; exact growslice_fits (by omega) (by omega))
      rw [hrun] at hr
      injection hr with e1 _
      rw [e1]
      exact .inr rfl
theorem wpList_appS {ops : Array Oper} {rest : List Oper} {o : Oper} {a : Act} {Q : Exit → Act → World → Prop} (hgd : o.guard = none) (sl x : Operand) (t u : TypeId)
    (ho : o.op = .call { callee := .builtin .append, args := #[sl, x], argTypes := #[t, u] })
    (base : Nat) (e : TypeId) (ht : P.underlying t = some (.slice e)) (hu : P.underlying u = some .string) (hinfo : (P.info? e).map (fun i => (i.zero, i.size, i.bytes)) = some (some (.int .u8 0), 1, 1))
    (v : Value) (n : Nat) (xs : List Int) (hs : a.eval sl = v) (hown : w.ownsRow base e 1 v n (nums .u8 xs)) (s : ByteArray) (hx : a.eval x = .string s)
    (N : Nat) (zs : List Int) (hN : n + s.size = N) (hz : xs ++ bytesOf s = zs)
    (h63 : N ≤ maxLen) (hbytes : N ≤ 140737488355328) (hbase : base ≤ w.heap.size)
    (h : ∀ A' c' w', w'.ownsRow base e 1 (.slice A' N c') N (nums .u8 zs) → w.grownBy w' v.ownBlock → ((Value.slice A' N c').ownBlock = v.ownBlock ∨ (Value.slice A' N c').ownBlock = some w.heap.size) → wpList P ops Q rest (a.put o.dst (.slice A' N c')) w') : wpList P ops Q (o :: rest) a w := by
  subst hN
  subst hz
  refine wpList_plain hgd fun K hK => ?_
  obtain ⟨A', c', w', hr, h2, h3, h4⟩ := run_appS (P := P) w base t u o.type e ht hu hinfo v n xs hown s h63 hbytes hbase
  unfold Oper.wp execOp
  simp only [ho, resolve, invoke, builtin, Sem.run_bind, Sem.run_pure, Result.andThen_ok, List.map_toArray, List.map_cons, List.map_nil, hs, hx, hr]
  exact hK _ _ (h A' c' w' h2 h3 h4)
end
set_option maxHeartbeats 1000000 in
theorem text_calls (w : World) (base : Nat) (A : Option Addr) (n c : Nat) (xs : List Int) (s : ByteArray) (hs : s.size ≤ 10000000000) (hn : n ≤ 100000000000) (hb : base ≤ w.heap.size) (hown : w.ownsRow base 5 1 (.slice A n c) n (nums .u8 xs)) (N : Nat) (zs : List Int) (hN : n + (textF s).length = N) (hzs : xs ++ textF s = zs) :
    Calls Tryd.prog 78 #[.slice A n c, .string s] w (AppPost w base (.slice A n c) N zs) := by
  have hsz : (s.size : Int) ≤ 10000000000 := by omega
  have hcl := compF_le s.size
  have hNl : N = n + (compF s.size).length + s.size := by rw [← hN, textF_length]; omega
  have hzl : zs = xs ++ compF s.size ++ bytesOf s := by rw [← hzs, textF, List.append_assoc]
  subst hNl
  subst hzl
  clear hN hzs
  have hlo : Hid (∀ q, (Value.slice A n c).ownBlock = some q → base ≤ q ∧ q < w.heap.size) := Lib.hid fun q hq => ⟨own_base hown q hq, (hown.lt q hq).2⟩
  go_enter Tryd.func78, Tryd.ntmps78
  go_wp2_with fail
  refine (comp_calls w base A n c xs s.size (by show s.size < _; omega) (by omega) hb hown (n + (compF s.size).length) (xs ++ compF s.size) rfl rfl).mono ?_
  rintro e w1 ⟨A1, c1, rfl, ho1, hg1, hx1⟩
  have HX := Lib.hid hx1
  have hs1 := hg1.size
  clear hx1 hown
  go_wp2_with (first | (refine wpList_appS _ rfl (.tmp 9) (.tmp 10) 22 9 rfl base 5 Tryd.underlying22 Tryd.underlying9 infoU8 (.slice A1 (n + (compF s.size).length) c1) (n + (compF s.size).length) (xs ++ compF s.size) rfl ho1 s rfl (n + (compF s.size).length + s.size) (xs ++ compF s.size ++ bytesOf s) rfl rfl (by unfold maxLen; omega) (by omega) (by omega) ?_; intro A2 c2 w2 ho2 hg2 hx2))
  have hf : AppPost w base (.slice A n c) (n + (compF s.size).length + s.size) (xs ++ compF s.size ++ bytesOf s) (.returned (.slice A2 (n + (compF s.size).length + s.size) c2)) w2 := ⟨A2, c2, rfl, ho2, grown_chain hg1 HX.out hg2, own_chain1 HX.out hs1 hx2⟩
  have HF := Lib.hid hf
  clear hf
  go_ret
  exact HF.out
end Go.Proofs.YtclkgflficlmiaaDoor
