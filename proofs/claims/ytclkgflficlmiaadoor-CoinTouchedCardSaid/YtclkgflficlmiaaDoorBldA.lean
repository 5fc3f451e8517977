/- The law's blocks of pays, in plain terms; a script of one letter. | The law's build: the inputs of a pay. | The law's build: the outputs of a pay, and their points. | The law's build: its plain steps, and the inputs of a pay whatever the place. | An array stored in the midst of a block. | The law's build: a block of pays, and all outputs so far. -/
import Derived.Test.YtclkgflficlmiaaDoorCoinA
import Derived.Test.YtclkgflficlmiaaDoorMask
import Derived.Test.YtclkgflficlmiaaDoorHeldW
import Derived.Test.YtclkgflficlmiaaDoorHeldV
import Derived.Test.YtclkgflficlmiaaDoorCoinB
import Derived.Test.YtclkgflficlmiaaDoorBlkSmall
import Derived.Deep.MidRow
/-! ## BldP -/
section
set_option maxRecDepth 100000
set_option linter.unusedVariables false
namespace Go.Proofs.YtclkgflficlmiaaDoor
open Go Go.RowKit
/-- So much, to whom. -/
abbrev TGive := Int × Int
/-- Which outputs, how much to whom, a lock. -/
abbrev TPay := List Int × (List TGive × Int)
abbrev giveK : RK TGive := RK.pair (RK.int .i64) (RK.int .i64)
abbrev payK : RK TPay := RK.pair (RK.slice (RK.int .i64)) (RK.pair (RK.slice giveK) (RK.int .i64))
theorem came_give : Came Tryd.prog 135 giveK :=
  came_struct Tryd.underlying135 (by kernel_rfl) (cameF_cons rfl (came_int Tryd.underlying3 (by kernel_rfl)) (cameF_one rfl (came_int Tryd.underlying3 (by kernel_rfl))))
theorem came_pay : Came Tryd.prog 139 payK :=
  came_struct Tryd.underlying139 (by kernel_rfl) (cameF_cons rfl (came_slice Tryd.underlying137 (by kernel_rfl) (came_int Tryd.underlying3 (by kernel_rfl))) (cameF_cons rfl (came_slice Tryd.underlying136 (by kernel_rfl) came_give) (cameF_one rfl (came_int Tryd.underlying3 (by kernel_rfl)))))
def scF (x : Int) : ByteArray := strOfNums [97 + x % 4]
def ouB (g : TGive) : TOut := ⟨g.1 % 65536, scF g.2⟩
def inB (p : Pt) : TIn := ⟨p.1, p.2, ⟨#[]⟩, 0, []⟩
def ixB (na : Nat) (x : Int) : Nat := ((x % 256) % (na : Int)).toNat
def pickB (all : List Pt) (x : Int) : Pt := all.getD (ixB all.length x) (zeros32, 0)
def insB (all : List Pt) (frm : List Int) : List TIn := if all = [] then [] else frm.map (fun x => inB (pickB all x))
def firstB (s : Int) : TIn := ⟨zeros32, 4294967295, ⟨#[]⟩, s, []⟩
def txB (s : Int) (i : Nat) (p : TPay) (all : List Pt) : TTx := ⟨1, if i = 0 then [firstB s] else insB all p.1, p.2.1.map ouB, p.2.2 % 256⟩
def ptsB (t : TTx) : List Pt := (List.range t.outs.length).map (fun (k : Nat) => (idF t, (k : Int)))
def bldT (s : Int) : Nat → List TPay → List Pt → List TTx × List Pt
  | _, [], all => ([], all)
  | i, p :: r, all => (txB s i p all :: (bldT s (i + 1) r (all ++ ptsB (txB s i p all))).1, (bldT s (i + 1) r (all ++ ptsB (txB s i p all))).2)
def bldH (s : Int) (ts : List TTx) : Hd := ⟨0, zeros32, rootF (idsF ts), 0, 0, s⟩
theorem ixB_lt {na : Nat} (h : 0 < na) (x : Int) : ixB na x < na := by
  unfold ixB
  have h1 := Int.emod_lt_of_pos (x % 256) (show (0 : Int) < na by omega)
  have h2 := Int.emod_nonneg (x % 256) (show (na : Int) ≠ 0 by omega)
  omega
theorem ixB_mod {na : Nat} (h : 0 < na) (x : Int) : (x % 256).tmod (na : Int) = (ixB na x : Int) := by
  unfold ixB
  have h1 := Int.emod_nonneg (x % 256) (show (na : Int) ≠ 0 by omega)
  have h2 := Int.emod_nonneg x (show (256 : Int) ≠ 0 by omega)
  rw [Int.tmod_eq_emod_of_nonneg h2]
  omega
theorem scF_size (x : Int) : (scF x).size = 1 := rfl
/-- Few pays, each of few. -/
def PaysOk (pays : List TPay) : Prop := pays.length ≤ 6 ∧ ∀ p ∈ pays, p.1.length ≤ 6 ∧ p.2.1.length ≤ 6
theorem built_in80 (x : TIn) (h : x.id.length = 32) (hs : x.script = ⟨#[]⟩) (hq : x.seq = 0) : Tryd.prog.built 67 [(0, .agg (ptL x.id x.out).toArray)] = some (inCells x (.slice none 0 0)).toArray := by
  obtain ⟨id, out, script, seq, wit⟩ := x
  simp only at hs hq
  subst hs
  subst hq
  obtain ⟨a0, a1, a2, a3, a4, a5, a6, a7, a8, a9, a10, a11, a12, a13, a14, a15, a16, a17, a18, a19, a20, a21, a22, a23, a24, a25, a26, a27, a28, a29, a30, a31, rfl⟩ := list32b id h
  kernel_rfl
theorem built_in82 (s : Int) : Tryd.prog.built 67 [(0, .agg (ptL zeros32 4294967295).toArray), (2, .int .u32 s)] = some (inCells (firstB s) (.slice none 0 0)).toArray := by kernel_rfl
theorem inB_ok {p : Pt} (h : PtOk p) : (inB p).Ok := ⟨h.1.1, h.1.2, h.2.1, h.2.2, by show (0 : Int) ≤ 0; omega, by show (0 : Int) ≤ 4294967295; omega, by show (⟨#[]⟩ : ByteArray).size ≤ maxLen; decide, (fun s hs => by cases hs)⟩
theorem firstB_ok {s : Int} (h0 : 0 ≤ s) (h1 : s ≤ 4294967295) : (firstB s).Ok := ⟨rfl, zeros32_dig.2, by show (0 : Int) ≤ 4294967295; omega, by show (4294967295 : Int) ≤ 4294967295; omega, h0, h1, by show (⟨#[]⟩ : ByteArray).size ≤ maxLen; decide, (fun s hs => by cases hs)⟩
theorem ouB_ok (g : TGive) : (ouB g).Ok := by
  have h1 := Int.emod_nonneg g.1 (show (65536 : Int) ≠ 0 by decide)
  have h2 := Int.emod_lt_of_pos g.1 (show (0 : Int) < 65536 by decide)
  exact ⟨by show -9223372036854775808 ≤ g.1 % 65536; omega, by show g.1 % 65536 ≤ 9223372036854775807; omega, by show (scF g.2).size ≤ maxLen; rw [scF_size]; decide⟩
set_option maxHeartbeats 4000000 in
theorem scr_calls (w : World) (x : Int) (h0 : -9223372036854775808 ≤ x) (h1 : x ≤ 9223372036854775807) :
    Calls Tryd.prog 65 #[.int .i64 x] w fun e w' => e = .returned (.string (scF x)) ∧ Below w.heap.size w w' := by
  have hm := i64_mask3 x
  obtain ⟨y, hy⟩ : ∃ y, x % 4 = y := ⟨_, rfl⟩
  have hy0 := Int.emod_nonneg x (show (4 : Int) ≠ 0 by decide)
  have hy1 := Int.emod_lt_of_pos x (show (0 : Int) < 4 by decide)
  rw [hy] at hm hy0 hy1
  have HF : Hid (scF x = strOfNums [97 + y]) := Lib.hid (by unfold scF; rw [hy])
  clear hy
  go_enter Tryd.func65, Tryd.ntmps65
  have k1 : (convert 22 9 (.slice (some ⟨w.heap.size, 0, none⟩) 1 1)).run Tryd.prog (w.alloc (.cells #[.int .u8 (97 + y)] 5)) = .ok (.string (strOfNums [97 + y])) (w.alloc (.cells #[.int .u8 (97 + y)] 5)) :=
    conv_rd Tryd.underlying22 Tryd.underlying5 Tryd.underlying9 (Rd.of_block0 (xs := nums .u8 [97 + y]) (heap_alloc_new _ _))
  have hb : Below w.heap.size w (w.alloc (.cells #[.int .u8 (97 + y)] 5)) := (Below.refl _ _).alloc (Nat.le_refl _) _
  go_wp2
  go_ret
  exact ⟨by rw [HF.out]; rfl, hb⟩
end Go.Proofs.YtclkgflficlmiaaDoor
end

/-! ## BldI -/
section
set_option maxRecDepth 100000
set_option linter.unusedVariables false
namespace Go.Proofs.YtclkgflficlmiaaDoor
open Go Go.RowKit
noncomputable def bdB2 : Code := ((Tryd.f46.body.bind (findBk 2)).getD .skip)
set_option maxHeartbeats 8000000 in
theorem bl_ins0 {u0 u1 u2 u3 u4 u5 u6 u7 u8 u11 u13 u14 u15 u16 u17 u18 u19 u20 u21 u22 u23 u24 u25 u26 u27 u28 u29 u30 u31 u32 u33 u34 u35 u36 u37 u38 u39 u40 u41 u42 u43 u44 u45 u46 u50 u51 u52 u53 u54 u55 u56 u57 u58 u59 u60 u61 u62 u63 u64 u65 u66 u67 u68 u69 u70 u71 u72 u73 u74 u75 u76 u77 u78 u79 u80 u81 u82 u83 u84 u85 u86 u87 u88 u89 u90 u91 u92 u93 u94 u95 u96 u97 u98 u99 u100 u101 u102 u103 u104 u105 u106 u107 u108 u109 u110 u111 u112 u113 u114 u115 u116 u117 u118 u119 u120 u121 u122 u123 u124 : Value} (wr0 : World) (i na ca nf cf gT : Nat) (Aa Af : Option Addr) (hz : i = 0 ∨ na = 0) (S : Nat → Prop) (frm : List Int) (hnf : nf ≤ 6) (hF : (RK.int .i64).C S wr0 Af nf frm) (Q0 : Exit → Act → World → Prop)
    (hexit : ∀ x14 x49 x50 x51 x52 x53 x54 x55 x56 x57 x58 x59 x60 x61 x62 x63 x64 x65 x66 x67 x68 x69 x70 x71 x72 x73 x74, Q0 .normal ⟨#[u0, u1, u2, u3, u4, u5, u6, u7, u8, .slice Aa na ca, .int .i64 (i : Int), u11, .pointer (some ⟨gT, 0, none⟩), u13, x14, u15, u16, u17, u18, u19, u20, u21, u22, u23, u24, u25, u26, u27, u28, u29, u30, u31, u32, u33, u34, u35, u36, u37, u38, u39, u40, u41, u42, u43, u44, u45, u46, .slice Af nf cf, .int .i64 (nf : Int), x49, x50, x51, x52, x53, x54, x55, x56, x57, x58, x59, x60, x61, x62, x63, x64, x65, x66, x67, x68, x69, x70, x71, x72, x73, x74, u75, u76, u77, u78, u79, u80, u81, u82, u83, u84, u85, u86, u87, u88, u89, u90, u91, u92, u93, u94, u95, u96, u97, u98, u99, u100, u101, u102, u103, u104, u105, u106, u107, u108, u109, u110, u111, u112, u113, u114, u115, u116, u117, u118, u119, u120, u121, u122, u123, u124], []⟩ wr0) : Code.wp Tryd.prog bdB2 Q0 ⟨#[u0, u1, u2, u3, u4, u5, u6, u7, u8, .slice Aa na ca, .int .i64 (i : Int), u11, .pointer (some ⟨gT, 0, none⟩), u13, u14, u15, u16, u17, u18, u19, u20, u21, u22, u23, u24, u25, u26, u27, u28, u29, u30, u31, u32, u33, u34, u35, u36, u37, u38, u39, u40, u41, u42, u43, u44, u45, u46, .slice Af nf cf, .int .i64 (nf : Int), .int .i64 0, u50, u51, u52, u53, u54, u55, u56, u57, u58, u59, u60, u61, u62, u63, u64, u65, u66, u67, u68, u69, u70, u71, u72, u73, u74, u75, u76, u77, u78, u79, u80, u81, u82, u83, u84, u85, u86, u87, u88, u89, u90, u91, u92, u93, u94, u95, u96, u97, u98, u99, u100, u101, u102, u103, u104, u105, u106, u107, u108, u109, u110, u111, u112, u113, u114, u115, u116, u117, u118, u119, u120, u121, u122, u123, u124], []⟩ wr0 := by
  have HE := Lib.hid hexit
  clear hexit
  have hnI : (nf : Int) ≤ 6 := by omega
  conv => arg 2; whnf
  go_wp2
  go_loopw [49] (fun v49 wr => ∃ j : Nat, j ≤ nf ∧ v49 = .int .i64 j ∧ wr = wr0) (fun v _ => nf - (intOf v).toNat)
  case atStart => exact ⟨0, by omega, rfl, rfl⟩
  case round =>
    obtain ⟨j, hj, rfl, rfl⟩ := hrel
    by_cases hlt : j < nf
    · have hlt' : (j : Int) < (nf : Int) := by omega
      have hjj : (0 : Int) ≤ (j : Int) := by omega
      obtain ⟨b, o, cs, x, hA, hx, hK, hc⟩ := hF.get j hlt
      subst hA
      obtain ⟨rfl, hx0, hx1⟩ := hK
      have hc0 := hc 0 _ rfl
      have hc0 : wr.cell? ⟨b, o + j, none⟩ = some (.int .i64 x) := by simpa [RK.int] using hc0
      clear hc hx
      rcases hz with rfl | rfl
      · have h0 : decide ((0 : Int) < ((0 : Nat) : Int)) = false := by decide
        go_wp2
        go_roundw
        case rel => exact ⟨j + 1, by omega, by go_num, (by first | rfl | trivial)⟩
        case measure => simp [intOf]; omega
      · by_cases hi : 0 < i
        · have h0 : decide ((0 : Int) < (i : Int)) = true := decide_eq_true (by omega)
          go_wp2
          go_roundw
          case rel => exact ⟨j + 1, by omega, by go_num, (by first | rfl | trivial)⟩
          case measure => simp [intOf]; omega
        · have h0 : decide ((0 : Int) < (i : Int)) = false := decide_eq_false (by omega)
          go_wp2
          go_roundw
          case rel => exact ⟨j + 1, by omega, by go_num, (by first | rfl | trivial)⟩
          case measure => simp [intOf]; omega
    · have hlt' : ¬ (j : Int) < (nf : Int) := by omega
      go_wp2
      exact HE.out _ _ _ _ _ _ _ _ _ _ _ _ _ _ _ _ _ _ _ _ _ _ _ _ _ _ _
/-- The row of a point, in a slice of points. -/
theorem pt_at {S : Nat → Prop} {w : World} {A : Option Addr} {n : Nat} {all : List Pt} (h : ptK.C S w A n all) (q : Nat) (hq : q < n) : ∃ b o, A = some ⟨b, o, none⟩ ∧ S b ∧ PtOk (all.getD q (zeros32, 0)) ∧ w.rangeAt b (o + q * 33) (ptL (all.getD q (zeros32, 0)).1 (all.getD q (zeros32, 0)).2) := by
  obtain ⟨b, o, cs, x, hA, hx, ⟨rfl, hk⟩, hc⟩ := h.get q hq
  have e : all.getD q (zeros32, 0) = x := by rw [List.getD_eq_getElem?_getD, hx]; rfl
  obtain ⟨b', o', hA', hS, _⟩ := h.addr (by omega)
  rw [hA] at hA'
  injection hA' with hA'
  injection hA' with q1 q2
  rw [e]
  exact ⟨b, o, hA, q1 ▸ hS, hk, hc⟩
set_option maxHeartbeats 8000000 in
theorem bl_ins1 {u0 u1 u2 u3 u4 u5 u6 u7 u8 u11 u13 u14 u15 u16 u17 u18 u19 u20 u21 u22 u23 u24 u25 u26 u27 u28 u29 u30 u31 u32 u33 u34 u35 u36 u37 u38 u39 u40 u41 u42 u43 u44 u45 u46 u50 u51 u52 u53 u54 u55 u56 u57 u58 u59 u60 u61 u62 u63 u64 u65 u66 u67 u68 u69 u70 u71 u72 u73 u74 u75 u76 u77 u78 u79 u80 u81 u82 u83 u84 u85 u86 u87 u88 u89 u90 u91 u92 u93 u94 u95 u96 u97 u98 u99 u100 u101 u102 u103 u104 u105 u106 u107 u108 u109 u110 u111 u112 u113 u114 u115 u116 u117 u118 u119 u120 u121 u122 u123 u124 : Value} (wr0 : World) (i na ca nf cf gT : Nat) (Aa Af : Option Addr) (hi0 : 0 < i) (hna : 0 < na) (hnc : na ≤ ca) (hcm : ca ≤ maxLen) (hgl : gT < wr0.heap.size) (all : List Pt) (hA : ptK.C (· < gT) wr0 Aa na all) (frm : List Int) (hnf : nf ≤ 6) (hF : (RK.int .i64).C (· < gT) wr0 Af nf frm)
    (ver lock : Int) (V2 : Value) (hgT0 : wr0.heap[gT]? = some (.cells #[.int .i32 ver, .slice none 0 0, V2, .int .u32 lock] 54)) (Q0 : Exit → Act → World → Prop)
    (hexit : ∀ x14 x49 x50 x51 x52 x53 x54 x55 x56 x57 x58 x59 x60 x61 x62 x63 x64 x65 x66 x67 x68 x69 x70 x71 x72 x73 x74 A c w', wr0.grownBy w' (some gT) → w'.heap[gT]? = some (.cells #[.int .i32 ver, .slice A nf c, V2, .int .u32 lock] 54) → InOwn w' wr0.heap.size (.slice A nf c) nf (frm.map (fun x => inB (pickB all x))) → Q0 .normal ⟨#[u0, u1, u2, u3, u4, u5, u6, u7, u8, .slice Aa na ca, .int .i64 (i : Int), u11, .pointer (some ⟨gT, 0, none⟩), u13, x14, u15, u16, u17, u18, u19, u20, u21, u22, u23, u24, u25, u26, u27, u28, u29, u30, u31, u32, u33, u34, u35, u36, u37, u38, u39, u40, u41, u42, u43, u44, u45, u46, .slice Af nf cf, .int .i64 (nf : Int), x49, x50, x51, x52, x53, x54, x55, x56, x57, x58, x59, x60, x61, x62, x63, x64, x65, x66, x67, x68, x69, x70, x71, x72, x73, x74, u75, u76, u77, u78, u79, u80, u81, u82, u83, u84, u85, u86, u87, u88, u89, u90, u91, u92, u93, u94, u95, u96, u97, u98, u99, u100, u101, u102, u103, u104, u105, u106, u107, u108, u109, u110, u111, u112, u113, u114, u115, u116, u117, u118, u119, u120, u121, u122, u123, u124], []⟩ w') : Code.wp Tryd.prog bdB2 Q0 ⟨#[u0, u1, u2, u3, u4, u5, u6, u7, u8, .slice Aa na ca, .int .i64 (i : Int), u11, .pointer (some ⟨gT, 0, none⟩), u13, u14, u15, u16, u17, u18, u19, u20, u21, u22, u23, u24, u25, u26, u27, u28, u29, u30, u31, u32, u33, u34, u35, u36, u37, u38, u39, u40, u41, u42, u43, u44, u45, u46, .slice Af nf cf, .int .i64 (nf : Int), .int .i64 0, u50, u51, u52, u53, u54, u55, u56, u57, u58, u59, u60, u61, u62, u63, u64, u65, u66, u67, u68, u69, u70, u71, u72, u73, u74, u75, u76, u77, u78, u79, u80, u81, u82, u83, u84, u85, u86, u87, u88, u89, u90, u91, u92, u93, u94, u95, u96, u97, u98, u99, u100, u101, u102, u103, u104, u105, u106, u107, u108, u109, u110, u111, u112, u113, u114, u115, u116, u117, u118, u119, u120, u121, u122, u123, u124], []⟩ wr0 := by
  have HE := Lib.hid hexit
  have hUP := Tryd.underlying64
  have hcm' := hcm
  unfold maxLen at hcm'
  have hnI : (nf : Int) ≤ 6 := by omega
  have hal := Lib.hid hA.len
  have hna0 : ¬ na = 0 := by omega
  have hfl := Lib.hid hF.len
  have hi1 : decide ((0 : Int) < (i : Int)) = true := decide_eq_true (by omega)
  have hna1 : decide ((0 : Int) < (na : Int)) = true := decide_eq_true (by omega)
  have hO0 : InOwn wr0 wr0.heap.size (.slice none 0 0) 0 ((frm.take 0).map (fun x => inB (pickB all x))) := RK.Own.nil _ _ _ _ _
  clear hexit
  conv => arg 2; whnf
  go_wp2
  go_loopw [49] (fun v49 wr => ∃ (j : Nat) (A : Option Addr) (c : Nat), j ≤ nf ∧ v49 = .int .i64 j ∧ wr0.grownBy wr (some gT) ∧ wr.heap[gT]? = some (.cells #[.int .i32 ver, .slice A j c, V2, .int .u32 lock] 54) ∧ InOwn wr wr0.heap.size (.slice A j c) j ((frm.take j).map (fun x => inB (pickB all x)))) (fun v _ => nf - (intOf v).toNat)
  case atStart => exact ⟨0, none, 0, by omega, rfl, World.grownBy.refl _ _, hgT0, hO0⟩
  case round =>
    clear hgT0 hO0
    obtain ⟨j, A, c, hj, rfl, hG, hgT, hO⟩ := hrel
    have hsz := hG.size
    by_cases hlt : j < nf
    · have hlt' : (j : Int) < (nf : Int) := by omega
      have hjj : (0 : Int) ≤ (j : Int) := by omega
      obtain ⟨b, o, cs, x, hAf, hx, hK, hc⟩ := (hF.move (fun q hq hl => hG.block q hl (fun e => by have := Option.some.inj e; omega))).get j hlt
      subst hAf
      obtain ⟨rfl, hx0, hx1⟩ := hK
      have hc0 := hc 0 _ rfl
      have hc0 : wr.cell? ⟨b, o + j, none⟩ = some (.int .i64 x) := by simpa [RK.int] using hc0
      have HX := Lib.hid hx
      have hq := ixB_lt (na := na) hna x
      have hm := i64_mask255 x
      have ht := ixB_mod (na := na) hna x
      have hpk : Hid (pickB all x = all.getD (ixB na x) (zeros32, 0)) := Lib.hid (by unfold pickB; rw [hal.out])
      obtain ⟨y, hy⟩ : ∃ y, x % 256 = y := ⟨_, rfl⟩
      have hy0 := Int.emod_nonneg x (show (256 : Int) ≠ 0 by decide)
      have hy1 := Int.emod_lt_of_pos x (show (0 : Int) < 256 by decide)
      obtain ⟨q, hqe⟩ : ∃ q, ixB na x = q := ⟨_, rfl⟩
      rw [hy] at hm ht hy0 hy1
      rw [hqe] at hq ht
      have HQ := Lib.hid hqe
      obtain ⟨b8, o8, hA8, hb8, hpo, hrP⟩ := pt_at (hA.move (fun q hq hl => hG.block q hl (fun e => by have := Option.some.inj e; omega))) q hq
      subst hA8
      obtain ⟨pt, hpt⟩ : ∃ pt, all.getD q (zeros32, 0) = pt := ⟨_, rfl⟩
      rw [hpt] at hpo hrP
      have HPT : Hid (pickB all x = pt) := Lib.hid (by rw [hpk.out, HQ.out, hpt])
      have hidl : (inB pt).id.length = 32 := hpo.1.1
      have hok := inB_ok hpo
      have hiP := info_pt hpo.1.1 pt.2
      clear hc hx hy hqe hpt
      go_upto_region 13 with fail
      obtain ⟨acc, hacc⟩ : ∃ acc, (frm.take j).map (fun x => inB (pickB all x)) = acc := ⟨_, rfl⟩
      rw [hacc] at hO
      have HACC : Hid ((frm.take (j + 1)).map (fun x => inB (pickB all x)) = acc ++ [inB pt]) := Lib.hid (by rw [List.take_add_one, HX.out, List.map_append, hacc, Option.toList_some, List.map_cons, HPT.out]; rfl)
      clear hacc
      have cT : wr.drew.cell? ⟨gT, 1, none⟩ = some (.slice A j c) := blk_cell hgT rfl
      have rP : wr.drew.rangeAt b8 (o8 + q * 33) (ptL pt.1 pt.2) := hrP
      have hOd : InOwn wr.drew wr0.heap.size (.slice A j c) j acc := hO.below (Below.drew (Below.refl _ _))
      have hgd : wr.drew.heap[gT]? = _ := hgT
      have hGd : wr0.grownBy wr.drew (some gT) := ⟨hG.os, hG.tape, hG.output, hG.size, hG.block⟩
      have hsd : wr0.heap.size ≤ wr.drew.heap.size := hsz
      have hlo := Lib.hid (fun q hq => (RK.Own.lt hO q hq).1 : ∀ q, (Value.slice A j c).ownBlock = some q → wr0.heap.size ≤ q)
      have hpne := Lib.hid (fun q hq => (by have := (RK.Own.lt hO q hq).1; omega) : ∀ q, (Value.slice A j c).ownBlock = some q → wr0.heap.size ≤ q)
      clear hO hgT hc0
      refine wp_region_noPanic ?_
      refine wp_region_heldU (fun w' => w'.cell? ⟨gT, 1, none⟩ = some (.slice A j c) ∧ w'.rangeAt b8 (o8 + q * 33) (ptL pt.1 pt.2)) 14 (by kernel_rfl) ⟨cT, rP⟩ (fun hHeld => ?_)
      -- 0: law.go:38 slot 60 := Op.fieldAddr 69 t12 1
      refine wpAnyU_take (i := 0) (oi := ⟨some 60, _, _, _, _, _⟩) (v := ?_) rfl (by kernel_rfl) (by kernel_rfl) (by kernel_rfl) (by kernel_rfl) (fun _ _ _ h => h) (Or.inl ⟨by rfl, ?_⟩) (by assumption) ?_
      rotate_left 1
      · intro w hSw; (try dsimp only at hSw); go_simp; try with_reducible rfl
      simp only [Act.put, List.setIfInBounds_toArray, List.set_cons_zero, List.set_cons_succ]
      -- 1: law.go:38 slot 61 := Op.load 66 t60
      refine wpAnyU_take (i := 1) (oi := ⟨some 61, _, _, _, _, _⟩) (v := ?_) rfl (by kernel_rfl) (by kernel_rfl) (by kernel_rfl) (by kernel_rfl) (fun _ _ _ h => h) (Or.inl ⟨by rfl, ?_⟩) (by assumption) ?_
      rotate_left 1
      · intro w hSw; (try dsimp only at hSw); go_simp; try with_reducible rfl
      simp only [Act.put, List.setIfInBounds_toArray, List.set_cons_zero, List.set_cons_succ]
      -- 2: law.go:38 slot 62 := Op.move t9
      refine wpAnyU_take (i := 2) (oi := ⟨some 62, _, _, _, _, _⟩) (v := ?_) rfl (by kernel_rfl) (by kernel_rfl) (by kernel_rfl) (by kernel_rfl) (fun _ _ _ h => h) (Or.inl ⟨by rfl, ?_⟩) (by assumption) ?_
      rotate_left 1
      · intro w hSw; (try dsimp only at hSw); go_simp; try with_reducible rfl
      simp only [Act.put, List.setIfInBounds_toArray, List.set_cons_zero, List.set_cons_succ]
      -- 3: law.go:38 slot 63 := Op.move t14
      refine wpAnyU_take (i := 3) (oi := ⟨some 63, _, _, _, _, _⟩) (v := ?_) rfl (by kernel_rfl) (by kernel_rfl) (by kernel_rfl) (by kernel_rfl) (fun _ _ _ h => h) (Or.inl ⟨by rfl, ?_⟩) (by assumption) ?_
      rotate_left 1
      · intro w hSw; (try dsimp only at hSw); go_simp; try with_reducible rfl
      simp only [Act.put, List.setIfInBounds_toArray, List.set_cons_zero, List.set_cons_succ]
      -- 4: law.go:38 slot 64 := Op.binOp BinOp.and 3 t63 (const (255:i64)) 3
      refine wpAnyU_take (i := 4) (oi := ⟨some 64, _, _, _, _, _⟩) (v := ?_) rfl (by kernel_rfl) (by kernel_rfl) (by kernel_rfl) (by kernel_rfl) (fun _ _ _ h => h) (Or.inl ⟨by rfl, ?_⟩) (by assumption) ?_
      rotate_left 1
      · intro w hSw; (try dsimp only at hSw); go_simp; try with_reducible rfl
      simp only [Act.put, List.setIfInBounds_toArray, List.set_cons_zero, List.set_cons_succ]
      -- 5: law.go:38 slot 65 := Op.move t9
      refine wpAnyU_take (i := 5) (oi := ⟨some 65, _, _, _, _, _⟩) (v := ?_) rfl (by kernel_rfl) (by kernel_rfl) (by kernel_rfl) (by kernel_rfl) (fun _ _ _ h => h) (Or.inl ⟨by rfl, ?_⟩) (by assumption) ?_
      rotate_left 1
      · intro w hSw; (try dsimp only at hSw); go_simp; try with_reducible rfl
      simp only [Act.put, List.setIfInBounds_toArray, List.set_cons_zero, List.set_cons_succ]
      -- 6: law.go:38 slot 66 := Op.call { builtin len, args := #[t65], argTypes := #[117] }
      refine wpAnyU_take (i := 6) (oi := ⟨some 66, _, _, _, _, _⟩) (v := ?_) rfl (by kernel_rfl) (by kernel_rfl) (by kernel_rfl) (by kernel_rfl) (fun _ _ _ h => h) (Or.inl ⟨by rfl, ?_⟩) (by assumption) ?_
      rotate_left 1
      · intro w hSw; (try dsimp only at hSw); go_simp; try with_reducible rfl
      simp only [Act.put, List.setIfInBounds_toArray, List.set_cons_zero, List.set_cons_succ]
      -- 7: law.go:38 slot 67 := Op.binOp BinOp.rem 3 t64 t66 3
      refine wpAnyU_take (i := 7) (oi := ⟨some 67, _, _, _, _, _⟩) (v := ?_) rfl (by kernel_rfl) (by kernel_rfl) (by kernel_rfl) (by kernel_rfl) (fun _ _ _ h => h) (Or.inl ⟨by rfl, ?_⟩) (by assumption) ?_
      rotate_left 1
      · intro w hSw; (try dsimp only at hSw); go_simp; try with_reducible rfl
      simp only [Act.put, List.setIfInBounds_toArray, List.set_cons_zero, List.set_cons_succ]
      -- 8: law.go:38 slot 68 := Op.indexAddr 117 t62 t67
      refine wpAnyU_take (i := 8) (oi := ⟨some 68, _, _, _, _, _⟩) (v := ?_) rfl (by kernel_rfl) (by kernel_rfl) (by kernel_rfl) (by kernel_rfl) (fun _ _ _ h => h) (Or.inl ⟨by rfl, ?_⟩) (by assumption) ?_
      rotate_left 1
      · intro w hSw; (try dsimp only at hSw); go_simp; try with_reducible rfl
      simp only [Act.put, List.setIfInBounds_toArray, List.set_cons_zero, List.set_cons_succ]
      -- 9: law.go:38 slot 69 := Op.load 77 t68
      refine wpAnyU_take (i := 9) (oi := ⟨some 69, _, _, _, _, _⟩) rfl (by kernel_rfl) (by kernel_rfl) (by kernel_rfl) (by kernel_rfl) (fun _ _ _ h => h) (yieldsIf_load_mid (by rfl) _ _ rfl _ _ rfl (ptL pt.1 pt.2) _ (fun _ h => h.2) hUP rfl hiP) (by assumption) ?_
      simp only [Act.put, List.setIfInBounds_toArray, List.set_cons_zero, List.set_cons_succ]
      -- 10: law.go:38 slot 70 := Op.build 80 #[(0, t69)]
      refine wpAnyU_take (i := 10) (oi := ⟨some 70, _, _, _, _, _⟩) (v := .agg (inCells (inB pt) (.slice none 0 0)).toArray) rfl (by kernel_rfl) (by kernel_rfl) (by kernel_rfl) (by kernel_rfl) (fun _ _ _ h => h) (yieldsIf_build (by rfl) 67 #[(0, .tmp 69)] rfl [(0, .agg (ptL pt.1 pt.2).toArray)] rfl (inCells (inB pt) (.slice none 0 0)).toArray (built_in80 (inB pt) hidl rfl rfl)) (by assumption) ?_
      simp only [Act.put, List.setIfInBounds_toArray, List.set_cons_zero, List.set_cons_succ]
      -- 11: law.go:38 slot 71 := Op.buildSlice 66 1 #[(0, t70)]
      refine wpAnyU_ready (i := 11) (o := ⟨some 71, _, _, _, _, _⟩) (by kernel_rfl) rfl (by decide) (fun K hK => ?_)
      refine step_build1 (by rfl) 51 67 _ (by rfl) Tryd.underlying51 _ 36 88 zinfo_in (by decide) (by decide) (inCells (inB pt) (.slice none 0 0)) (inCells_length hidl _) rfl (by rfl) ?_
      have hgr := World.grownBy_alloc wr.drew (.cells (inCells (inB pt) (.slice none 0 0)).toArray 67) none
      refine hK.out _ _ ⟨cell_grown hgr hHeld.1 (by simp), range_grown hgr hHeld.2 (by simp)⟩ (fun hHeld' => ?_)
      clear hHeld
      have hHeld := hHeld'
      clear hHeld' 
      clear hK K
      try (simp only [Act.put, List.setIfInBounds_toArray, List.set_cons_zero, List.set_cons_succ])
      -- 12: law.go:38 slot 72 := Op.call { builtin append, args := #[t61, t71], argTypes := #[66, 66] }
      refine wpAnyU_ready (i := 12) (o := ⟨some 72, _, _, _, _, _⟩) (by kernel_rfl) rfl (by decide) (fun K hK => ?_)
      have hq1 := RK.Own.alloc hOd (.cells (inCells (inB pt) (.slice none 0 0)).toArray 67)
      have hq2 := in0K_one (heap_alloc_new wr.drew (.cells (inCells (inB pt) (.slice none 0 0)).toArray 67)) hok rfl
      have hq3 : wr0.heap.size ≤ (wr.drew.alloc (.cells (inCells (inB pt) (.slice none 0 0)).toArray 67)).heap.size := by simp; omega
      refine RK.step_appK in0K _ (by rfl) (.tmp 61) (.tmp 71) 51 (by rfl) (fun _ => False) wr0.heap.size 67 _ 88 Tryd.underlying51 zinfo_in rfl (by decide) (.slice A j c) j acc (by rfl) hq1 (fun _ h => h.elim) _ 1 1 [inB pt] (by rfl) (fun _ => True) hq2 (fun _ _ h => h) (j + 1) (acc ++ [inB pt]) rfl rfl (by unfold maxLen; omega) (by omega) hq3 ?_
      intro A9 c9 w9 hO9 hG9 hx9
      refine hK.out _ _ ⟨cell_grown hG9 hHeld.1 (fun e => by have := hlo.out _ e.symm; omega), range_grown hG9 hHeld.2 (fun e => by have := (hpne.out _ e.symm); omega)⟩ (fun hHeld' => ?_)
      clear hHeld
      have hHeld := hHeld'
      clear hHeld'
      have hg9 : w9.heap[gT]? = _ := heap_grown hG9 (blk_alloc hgd (.cells (inCells (inB pt) (.slice none 0 0)).toArray 67)) (fun e => by have := hlo.out _ e.symm; omega)
      have f9 := blk_frozen hg9 1
      clear hK K
      try (simp only [Act.put, List.setIfInBounds_toArray, List.set_cons_zero, List.set_cons_succ])
      -- 13: law.go:38 slot 73 := Op.fieldAddr 69 t12 1
      refine wpAnyU_take (i := 13) (oi := ⟨some 73, _, _, _, _, _⟩) (v := ?_) rfl (by kernel_rfl) (by kernel_rfl) (by kernel_rfl) (by kernel_rfl) (fun _ _ _ h => h) (Or.inl ⟨by rfl, ?_⟩) (by assumption) ?_
      rotate_left 1
      · intro w hSw; (try dsimp only at hSw); go_simp; try with_reducible rfl
      simp only [Act.put, List.setIfInBounds_toArray, List.set_cons_zero, List.set_cons_succ]
      -- 14: law.go:38 slot none := Op.store 66 t73 t72
      refine wpAnyU_last (o := ⟨none, _, _, _, _, _⟩) (by kernel_rfl) rfl (fun K hK => ?_)
      have hH9 := hHeld.1
      go_simp
      refine hK.out _ _ ?_
      clear hK K
      try (simp only [Act.put])
      refine wpAnyU_done (by kernel_rfl) ?_ _
      refine NoPanic.normal ?_

      have hT9 := turned_setCell w9 gT 1 (.slice A9 (j + 1) c9)
      have hgz := blk_set hg9 1 (.slice A9 (j + 1) c9)
      have hOz : InOwn (w9.setCell ⟨gT, 1, none⟩ (.slice A9 (j + 1) c9)) wr0.heap.size (.slice A9 (j + 1) c9) (j + 1) (acc ++ [inB pt]) := hO9.grown_ hT9.grown (fun q e => by cases e; exact hgl)
      have hGz : wr0.grownBy (w9.setCell ⟨gT, 1, none⟩ (.slice A9 (j + 1) c9)) (some gT) :=
        ((hGd.andThen (World.grownBy_alloc wr.drew (.cells (inCells (inB pt) (.slice none 0 0)).toArray 67) none) (fun q e => by cases e)).andThen hG9 (fun q e => Or.inl (hlo.out q e))).andThen hT9.grown (fun q e => Or.inr e)
      rw [← HACC.out] at hOz
      clear hHeld hq1 hq2 hq3 hO9 hG9 hx9 hg9 f9 hOd hgd hGd hT9 cT rP hH9
      go_wp2
      go_roundw
      case rel => exact ⟨j + 1, A9, c9, by omega, by go_num, hGz, hgz, hOz⟩
      case measure => simp [intOf]; omega
    · have hlt' : ¬ (j : Int) < (nf : Int) := by omega
      have hjn : j = nf := by omega
      subst hjn
      rw [List.take_of_length_le (by rw [hfl.out]; exact Nat.le_refl _)] at hO
      go_wp2
      exact HE.out _ _ _ _ _ _ _ _ _ _ _ _ _ _ _ _ _ _ _ _ _ _ _ _ _ _ _ A c _ hG hgT hO
end Go.Proofs.YtclkgflficlmiaaDoor
end

/-! ## BldO -/
section
set_option maxRecDepth 100000
set_option linter.unusedVariables false
namespace Go.Proofs.YtclkgflficlmiaaDoor
open Go Go.RowKit
abbrev OuOwn (w : World) (base : Nat) (v : Value) (n : Nat) (xs : List TOut) : Prop := outK.Own (fun _ => False) w base 62 v n xs
noncomputable def bdB4 : Code := ((Tryd.f46.body.bind (findBk 4)).getD .skip)
noncomputable def bdB6 : Code := ((Tryd.f46.body.bind (findBk 6)).getD .skip)
set_option maxHeartbeats 8000000 in
theorem bl_outs {u0 u1 u2 u3 u4 u5 u6 u7 u8 u9 u10 u11 u13 u14 u15 u16 u17 u18 u19 u20 u21 u22 u23 u24 u25 u26 u27 u28 u29 u30 u31 u32 u33 u34 u35 u36 u37 u38 u39 u40 u41 u42 u43 u44 u45 u46 u47 u48 u49 u50 u51 u52 u53 u54 u55 u56 u57 u58 u59 u60 u61 u62 u63 u64 u65 u66 u67 u68 u69 u70 u71 u72 u73 u74 u75 u79 u80 u81 u82 u83 u84 u85 u86 u87 u88 u89 u90 u91 u92 u93 u94 u95 u96 u97 u98 u99 u100 u101 u102 u103 u104 u105 u106 u107 u108 u109 u110 u111 u112 u113 u114 u115 u116 u117 u118 u119 u120 u121 u122 u123 u124 : Value} (wr0 : World) (ng cg gT : Nat) (Ag : Option Addr) (hgl : gT < wr0.heap.size) (gs : List TGive) (hng : ng ≤ 6) (hF : giveK.C (· < gT) wr0 Ag ng gs)
    (ver lock : Int) (V1 : Value) (hgT0 : wr0.heap[gT]? = some (.cells #[.int .i32 ver, V1, .slice none 0 0, .int .u32 lock] 54)) (Q0 : Exit → Act → World → Prop)
    (hexit : ∀ x16 x78 x79 x80 x81 x82 x83 x84 x85 x86 x87 x88 x89 x90 x91 x92 x93 x94 A c w', wr0.grownBy w' (some gT) → w'.heap[gT]? = some (.cells #[.int .i32 ver, V1, .slice A ng c, .int .u32 lock] 54) → OuOwn w' wr0.heap.size (.slice A ng c) ng (gs.map ouB) → Q0 .normal ⟨#[u0, u1, u2, u3, u4, u5, u6, u7, u8, u9, u10, u11, .pointer (some ⟨gT, 0, none⟩), u13, u14, u15, x16, u17, u18, u19, u20, u21, u22, u23, u24, u25, u26, u27, u28, u29, u30, u31, u32, u33, u34, u35, u36, u37, u38, u39, u40, u41, u42, u43, u44, u45, u46, u47, u48, u49, u50, u51, u52, u53, u54, u55, u56, u57, u58, u59, u60, u61, u62, u63, u64, u65, u66, u67, u68, u69, u70, u71, u72, u73, u74, u75, .slice Ag ng cg, .int .i64 (ng : Int), x78, x79, x80, x81, x82, x83, x84, x85, x86, x87, x88, x89, x90, x91, x92, x93, x94, u95, u96, u97, u98, u99, u100, u101, u102, u103, u104, u105, u106, u107, u108, u109, u110, u111, u112, u113, u114, u115, u116, u117, u118, u119, u120, u121, u122, u123, u124], []⟩ w') : Code.wp Tryd.prog bdB4 Q0 ⟨#[u0, u1, u2, u3, u4, u5, u6, u7, u8, u9, u10, u11, .pointer (some ⟨gT, 0, none⟩), u13, u14, u15, u16, u17, u18, u19, u20, u21, u22, u23, u24, u25, u26, u27, u28, u29, u30, u31, u32, u33, u34, u35, u36, u37, u38, u39, u40, u41, u42, u43, u44, u45, u46, u47, u48, u49, u50, u51, u52, u53, u54, u55, u56, u57, u58, u59, u60, u61, u62, u63, u64, u65, u66, u67, u68, u69, u70, u71, u72, u73, u74, u75, .slice Ag ng cg, .int .i64 (ng : Int), .int .i64 0, u79, u80, u81, u82, u83, u84, u85, u86, u87, u88, u89, u90, u91, u92, u93, u94, u95, u96, u97, u98, u99, u100, u101, u102, u103, u104, u105, u106, u107, u108, u109, u110, u111, u112, u113, u114, u115, u116, u117, u118, u119, u120, u121, u122, u123, u124], []⟩ wr0 := by
  have HE := Lib.hid hexit
  have hnI : (ng : Int) ≤ 6 := by omega
  have hfl := Lib.hid hF.len
  have hO0 : OuOwn wr0 wr0.heap.size (.slice none 0 0) 0 ((gs.take 0).map ouB) := RK.Own.nil _ _ _ _ _
  clear hexit
  conv => arg 2; whnf
  go_wp2
  go_loopw [78] (fun v78 wr => ∃ (j : Nat) (A : Option Addr) (c : Nat), j ≤ ng ∧ v78 = .int .i64 j ∧ wr0.grownBy wr (some gT) ∧ wr.heap[gT]? = some (.cells #[.int .i32 ver, V1, .slice A j c, .int .u32 lock] 54) ∧ OuOwn wr wr0.heap.size (.slice A j c) j ((gs.take j).map ouB)) (fun v _ => ng - (intOf v).toNat)
  case atStart => exact ⟨0, none, 0, by omega, rfl, World.grownBy.refl _ _, hgT0, hO0⟩
  case round =>
    clear hgT0 hO0
    obtain ⟨j, A, c, hj, rfl, hG, hgT, hO⟩ := hrel
    have hsz := hG.size
    by_cases hlt : j < ng
    · have hlt' : (j : Int) < (ng : Int) := by omega
      have hjj : (0 : Int) ≤ (j : Int) := by omega
      obtain ⟨b, o, cs, x, hAf, hx, hK, hc⟩ := (hF.move (fun q hq hl => hG.block q hl (fun e => by have := Option.some.inj e; omega))).get j hlt
      subst hAf
      obtain ⟨x0, x1⟩ := x
      obtain ⟨_, _, rfl, ⟨rfl, hx0⟩, ⟨rfl, hx1⟩⟩ := hK
      obtain ⟨hx1a, hx1b⟩ := i64_rng hx1
      have hc0 : wr.cell? ⟨b, o + j * 2, none⟩ = some (.int .i64 x0) := hc 0 _ rfl
      have hc1 : wr.cell? ⟨b, o + j * 2 + 1, none⟩ = some (.int .i64 x1) := hc 1 _ rfl
      have HX := Lib.hid hx
      have hm := i64_mask65535 x0
      obtain ⟨y, hy⟩ : ∃ y, x0 % 65536 = y := ⟨_, rfl⟩
      rw [hy] at hm
      have hok : TOut.Ok ⟨y, scF x1⟩ := by have := ouB_ok (x0, x1); unfold ouB at this; rw [hy] at this; exact this
      obtain ⟨acc, hacc⟩ : ∃ acc, (gs.take j).map ouB = acc := ⟨_, rfl⟩
      rw [hacc] at hO
      have HACC : Hid ((gs.take (j + 1)).map ouB = acc ++ [⟨y, scF x1⟩]) := Lib.hid (by rw [List.take_add_one, HX.out, List.map_append, hacc, Option.toList_some, List.map_cons]; unfold ouB; rw [hy]; rfl)
      clear hc hx hy hacc hx0 hx1
      go_upto_region 18 with fail
      have hba : Below wr.heap.size wr (wr.alloc (.cells #[.int .i64 x0, .int .i64 x1] 135)) := (Below.refl _ _).alloc (Nat.le_refl _) _
      refine wp_gen (q := fun wi => wi.heap[wr.heap.size]? = some (.cells #[.int .i64 x0, .int .i64 x1] 135) ∧ Below wr.heap.size wr wi) ⟨heap_alloc_new _ _, hba⟩ (fun w2 hw => ?_)
      clear hba hc0 hc1
      obtain ⟨g2, hb2⟩ := hw
      have hO2 := hO.below hb2
      have hg2 := heap_below hb2 hgT
      have hG2 : wr0.grownBy w2 (some gT) := hG.andThen (grown_of_below hb2 none) (fun q e => by cases e)
      have hO2 : OuOwn w2.drew wr0.heap.size (.slice A j c) j acc := hO2.below (Below.drew (Below.refl _ _))
      have hg2 : w2.drew.heap[gT]? = _ := hg2
      have hG2 : wr0.grownBy w2.drew (some gT) := ⟨hG2.os, hG2.tape, hG2.output, hG2.size, hG2.block⟩
      have cT : w2.drew.cell? ⟨gT, 2, none⟩ = some (.slice A j c) := blk_cell hg2 rfl
      have cX : w2.drew.cell? ⟨wr.heap.size, 0, none⟩ = some (.int .i64 x0) := blk_cell g2 rfl
      have cY : w2.drew.cell? ⟨wr.heap.size, 1, none⟩ = some (.int .i64 x1) := blk_cell g2 rfl
      have hlo := Lib.hid (fun q hq => (RK.Own.lt hO q hq).1 : ∀ q, (Value.slice A j c).ownBlock = some q → wr0.heap.size ≤ q)
      have hhi := Lib.hid (fun q hq => (RK.Own.lt hO q hq).2 : ∀ q, (Value.slice A j c).ownBlock = some q → q < wr.heap.size)
      clear hO hgT hG hb2 g2
      refine wp_region_noPanic ?_
      refine wp_region_heldU (fun w' => w'.cell? ⟨gT, 2, none⟩ = some (.slice A j c) ∧ w'.cell? ⟨wr.heap.size, 0, none⟩ = some (.int .i64 x0) ∧ w'.cell? ⟨wr.heap.size, 1, none⟩ = some (.int .i64 x1)) 12 (by kernel_rfl) ⟨cT, cX, cY⟩ (fun hHeld => ?_)
      -- 0: law.go:42 slot 82 := Op.fieldAddr 69 t12 2
      refine wpAnyU_take (i := 0) (oi := ⟨some 82, _, _, _, _, _⟩) (v := ?_) rfl (by kernel_rfl) (by kernel_rfl) (by kernel_rfl) (by kernel_rfl) (fun _ _ _ h => h) (Or.inl ⟨by rfl, ?_⟩) (by assumption) ?_
      rotate_left 1
      · intro w hSw; (try dsimp only at hSw); go_simp; try with_reducible rfl
      simp only [Act.put, List.setIfInBounds_toArray, List.set_cons_zero, List.set_cons_succ]
      -- 1: law.go:42 slot 83 := Op.load 67 t82
      refine wpAnyU_take (i := 1) (oi := ⟨some 83, _, _, _, _, _⟩) (v := ?_) rfl (by kernel_rfl) (by kernel_rfl) (by kernel_rfl) (by kernel_rfl) (fun _ _ _ h => h) (Or.inl ⟨by rfl, ?_⟩) (by assumption) ?_
      rotate_left 1
      · intro w hSw; (try dsimp only at hSw); go_simp; try with_reducible rfl
      simp only [Act.put, List.setIfInBounds_toArray, List.set_cons_zero, List.set_cons_succ]
      -- 2: law.go:42 slot 84 := Op.fieldAddr 155 t16 0
      refine wpAnyU_take (i := 2) (oi := ⟨some 84, _, _, _, _, _⟩) (v := ?_) rfl (by kernel_rfl) (by kernel_rfl) (by kernel_rfl) (by kernel_rfl) (fun _ _ _ h => h) (Or.inl ⟨by rfl, ?_⟩) (by assumption) ?_
      rotate_left 1
      · intro w hSw; (try dsimp only at hSw); go_simp; try with_reducible rfl
      simp only [Act.put, List.setIfInBounds_toArray, List.set_cons_zero, List.set_cons_succ]
      -- 3: law.go:42 slot 85 := Op.load 3 t84
      refine wpAnyU_take (i := 3) (oi := ⟨some 85, _, _, _, _, _⟩) (v := ?_) rfl (by kernel_rfl) (by kernel_rfl) (by kernel_rfl) (by kernel_rfl) (fun _ _ _ h => h) (Or.inl ⟨by rfl, ?_⟩) (by assumption) ?_
      rotate_left 1
      · intro w hSw; (try dsimp only at hSw); go_simp; try with_reducible rfl
      simp only [Act.put, List.setIfInBounds_toArray, List.set_cons_zero, List.set_cons_succ]
      -- 4: law.go:42 slot 86 := Op.binOp BinOp.and 3 t85 (const (65535:i64)) 3
      refine wpAnyU_take (i := 4) (oi := ⟨some 86, _, _, _, _, _⟩) (v := ?_) rfl (by kernel_rfl) (by kernel_rfl) (by kernel_rfl) (by kernel_rfl) (fun _ _ _ h => h) (Or.inl ⟨by rfl, ?_⟩) (by assumption) ?_
      rotate_left 1
      · intro w hSw; (try dsimp only at hSw); go_simp; try with_reducible rfl
      simp only [Act.put, List.setIfInBounds_toArray, List.set_cons_zero, List.set_cons_succ]
      -- 5: law.go:42 slot 87 := Op.fieldAddr 155 t16 1
      refine wpAnyU_take (i := 5) (oi := ⟨some 87, _, _, _, _, _⟩) (v := ?_) rfl (by kernel_rfl) (by kernel_rfl) (by kernel_rfl) (by kernel_rfl) (fun _ _ _ h => h) (Or.inl ⟨by rfl, ?_⟩) (by assumption) ?_
      rotate_left 1
      · intro w hSw; (try dsimp only at hSw); go_simp; try with_reducible rfl
      simp only [Act.put, List.setIfInBounds_toArray, List.set_cons_zero, List.set_cons_succ]
      -- 6: law.go:42 slot 88 := Op.load 3 t87
      refine wpAnyU_take (i := 6) (oi := ⟨some 88, _, _, _, _, _⟩) (v := ?_) rfl (by kernel_rfl) (by kernel_rfl) (by kernel_rfl) (by kernel_rfl) (fun _ _ _ h => h) (Or.inl ⟨by rfl, ?_⟩) (by assumption) ?_
      rotate_left 1
      · intro w hSw; (try dsimp only at hSw); go_simp; try with_reducible rfl
      simp only [Act.put, List.setIfInBounds_toArray, List.set_cons_zero, List.set_cons_succ]
      -- 7: law.go:42 slot 89 := Op.call { value (Operand.func 78), args := #[t88], argTypes := #[3] }
      refine wpAnyU_ready (i := 7) (o := ⟨some 89, _, _, _, _, _⟩) (by kernel_rfl) rfl (by decide) (fun K hK => ?_)
      go_simp
      refine (scr_calls _ x1 hx1a hx1b).mono ?_
      rintro e w4 ⟨rfl, hbz⟩
      refine hK.out _ _ ⟨cell_below hbz hHeld.1, cell_below hbz hHeld.2.1, cell_below hbz hHeld.2.2⟩ (fun hHeld' => ?_)
      clear hHeld
      have hHeld := hHeld'
      clear hHeld'
      have hOd := hO2.below hbz
      have hgd := heap_below hbz hg2
      have hGd : wr0.grownBy w4 (some gT) := hG2.andThen (grown_of_below hbz none) (fun q e => by cases e)
      have hsd := hGd.size
      clear hK K
      try (simp only [Act.put, List.setIfInBounds_toArray, List.set_cons_zero, List.set_cons_succ])
      -- 8: law.go:42 slot 90 := Op.build 75 #[(0, t86), (1, t89)]
      refine wpAnyU_take (i := 8) (oi := ⟨some 90, _, _, _, _, _⟩) (v := ?_) rfl (by kernel_rfl) (by kernel_rfl) (by kernel_rfl) (by kernel_rfl) (fun _ _ _ h => h) (Or.inl ⟨by rfl, ?_⟩) (by assumption) ?_
      rotate_left 1
      · intro w hSw; (try dsimp only at hSw); go_simp; try with_reducible rfl
      simp only [Act.put, List.setIfInBounds_toArray, List.set_cons_zero, List.set_cons_succ]
      -- 9: law.go:42 slot 91 := Op.buildSlice 67 1 #[(0, t90)]
      refine wpAnyU_ready (i := 9) (o := ⟨some 91, _, _, _, _, _⟩) (by kernel_rfl) rfl (by decide) (fun K hK => ?_)
      refine step_build1 (by rfl) 52 62 _ (by rfl) Tryd.underlying52 _ 2 24 zinfo_out (by decide) (by decide) (outCells ⟨y, scF x1⟩) rfl rfl (by rfl) ?_
      have hgr := World.grownBy_alloc w4 (.cells (outCells ⟨y, scF x1⟩).toArray 62) none
      refine hK.out _ _ ⟨cell_grown hgr hHeld.1 (by simp), cell_grown hgr hHeld.2.1 (by simp), cell_grown hgr hHeld.2.2 (by simp)⟩ (fun hHeld' => ?_)
      clear hHeld
      have hHeld := hHeld'
      clear hHeld' 
      clear hK K
      try (simp only [Act.put, List.setIfInBounds_toArray, List.set_cons_zero, List.set_cons_succ])
      -- 10: law.go:42 slot 92 := Op.call { builtin append, args := #[t83, t91], argTypes := #[67, 67] }
      refine wpAnyU_ready (i := 10) (o := ⟨some 92, _, _, _, _, _⟩) (by kernel_rfl) rfl (by decide) (fun K hK => ?_)
      have hq1 := RK.Own.alloc hOd (.cells (outCells ⟨y, scF x1⟩).toArray 62)
      have hq2 := outK_one (heap_alloc_new w4 (.cells (outCells ⟨y, scF x1⟩).toArray 62)) hok
      have hq3 : wr0.heap.size ≤ (w4.alloc (.cells (outCells ⟨y, scF x1⟩).toArray 62)).heap.size := by simp; omega
      refine RK.step_appK outK _ (by rfl) (.tmp 83) (.tmp 91) 52 (by rfl) (fun _ => False) wr0.heap.size 62 _ 24 Tryd.underlying52 zinfo_out rfl (by decide) (.slice A j c) j acc (by rfl) hq1 (fun _ h => h.elim) _ 1 1 [⟨y, scF x1⟩] (by rfl) (fun _ => True) hq2 (fun _ _ h => h) (j + 1) (acc ++ [⟨y, scF x1⟩]) rfl rfl (by unfold maxLen; omega) (by omega) hq3 ?_
      intro A9 c9 w9 hO9 hG9 hx9
      refine hK.out _ _ ⟨cell_grown hG9 hHeld.1 (fun e => by have := hlo.out _ e.symm; omega), cell_grown hG9 hHeld.2.1 (fun e => by have := hhi.out _ e.symm; omega), cell_grown hG9 hHeld.2.2 (fun e => by have := hhi.out _ e.symm; omega)⟩ (fun hHeld' => ?_)
      clear hHeld
      have hHeld := hHeld'
      clear hHeld'
      have hg9 : w9.heap[gT]? = _ := heap_grown hG9 (blk_alloc hgd (.cells (outCells ⟨y, scF x1⟩).toArray 62)) (fun e => by have := hlo.out _ e.symm; omega)
      have f9 := blk_frozen hg9 2
      clear hK K
      try (simp only [Act.put, List.setIfInBounds_toArray, List.set_cons_zero, List.set_cons_succ])
      -- 11: law.go:42 slot 93 := Op.fieldAddr 69 t12 2
      refine wpAnyU_take (i := 11) (oi := ⟨some 93, _, _, _, _, _⟩) (v := ?_) rfl (by kernel_rfl) (by kernel_rfl) (by kernel_rfl) (by kernel_rfl) (fun _ _ _ h => h) (Or.inl ⟨by rfl, ?_⟩) (by assumption) ?_
      rotate_left 1
      · intro w hSw; (try dsimp only at hSw); go_simp; try with_reducible rfl
      simp only [Act.put, List.setIfInBounds_toArray, List.set_cons_zero, List.set_cons_succ]
      -- 12: law.go:42 slot none := Op.store 67 t93 t92
      refine wpAnyU_last (o := ⟨none, _, _, _, _, _⟩) (by kernel_rfl) rfl (fun K hK => ?_)
      have hH9 := hHeld.1
      go_simp
      refine hK.out _ _ ?_
      clear hK K
      try (simp only [Act.put])
      refine wpAnyU_done (by kernel_rfl) ?_ _
      refine NoPanic.normal ?_

      have hT9 := turned_setCell w9 gT 2 (.slice A9 (j + 1) c9)
      have hgz := blk_set hg9 2 (.slice A9 (j + 1) c9)
      have hOz : OuOwn (w9.setCell ⟨gT, 2, none⟩ (.slice A9 (j + 1) c9)) wr0.heap.size (.slice A9 (j + 1) c9) (j + 1) (acc ++ [⟨y, scF x1⟩]) := hO9.grown_ hT9.grown (fun q e => by cases e; exact hgl)
      have hGz : wr0.grownBy (w9.setCell ⟨gT, 2, none⟩ (.slice A9 (j + 1) c9)) (some gT) :=
        ((hGd.andThen (World.grownBy_alloc w4 (.cells (outCells ⟨y, scF x1⟩).toArray 62) none) (fun q e => by cases e)).andThen hG9 (fun q e => Or.inl (hlo.out q e))).andThen hT9.grown (fun q e => Or.inr e)
      rw [← HACC.out] at hOz
      clear hHeld hq1 hq2 hq3 hO9 hG9 hx9 hg9 f9 hOd hgd hGd hT9 cT cX cY hH9 hO2 hg2 hG2
      go_wp2
      go_roundw
      case rel => exact ⟨j + 1, A9, c9, by omega, by go_num, hGz, hgz, hOz⟩
      case measure => simp [intOf]; omega
    · have hlt' : ¬ (j : Int) < (ng : Int) := by omega
      have hjn : j = ng := by omega
      subst hjn
      rw [List.take_of_length_le (by rw [hfl.out]; exact Nat.le_refl _)] at hO
      go_wp2
      exact HE.out _ _ _ _ _ _ _ _ _ _ _ _ _ _ _ _ _ _ A c _ hG hgT hO
theorem zinfo_pt : (Tryd.prog.info? 64).map (fun i => (i.zero, i.size, i.bytes)) = some (some (.agg (ptL zeros32 0).toArray), 33, 36) := by kernel_rfl
abbrev PtOwn (w : World) (base : Nat) (v : Value) (n : Nat) (xs : List Pt) : Prop := ptK.Own (fun _ => False) w base 64 v n xs
def ptsN (id : List Int) (n : Nat) : List Pt := (List.range n).map (fun (k : Nat) => (id, (k : Int)))
theorem ptsN_succ (id : List Int) (n : Nat) : ptsN id (n + 1) = ptsN id n ++ [(id, (n : Int))] := by unfold ptsN; rw [List.range_succ, List.map_append]; rfl
set_option maxHeartbeats 8000000 in
theorem bl_pts {u0 u1 u2 u3 u4 u5 u6 u7 u8 u10 u11 u12 u13 u14 u15 u16 u18 u19 u20 u21 u22 u23 u24 u25 u26 u27 u28 u29 u30 u31 u32 u33 u34 u35 u36 u37 u38 u39 u40 u41 u42 u43 u44 u45 u46 u47 u48 u49 u50 u51 u52 u53 u54 u55 u56 u57 u58 u59 u60 u61 u62 u63 u64 u65 u66 u67 u68 u69 u70 u71 u72 u73 u74 u75 u76 u77 u78 u79 u80 u81 u82 u83 u84 u85 u86 u87 u88 u89 u90 u91 u92 u93 u94 u95 u96 u97 u98 u99 u100 u101 u102 u103 u104 u107 u108 u109 u110 u111 u112 u113 u114 u115 u116 u117 u118 u119 u120 u121 u122 u123 u124 : Value} (wr0 : World) (na ca n2 gI base : Nat) (Aa : Option Addr) (all : List Pt) (hna : na ≤ 1000000) (hn2 : n2 ≤ 1000000) (hbase : base ≤ wr0.heap.size) (hO0 : PtOwn wr0 base (.slice Aa na ca) na all) (id : List Int) (hd : Dig id) (hgI0 : wr0.heap[gI]? = some (.cells (nums .u8 id).toArray 24)) (hne : some gI ≠ (Value.slice Aa na ca).ownBlock) (Q0 : Exit → Act → World → Prop)
    (hexit : ∀ x18 x106 x107 x108 x109 x110 x111 x112 x113 x114 x115 x116 A c w', wr0.grownBy w' (Value.slice Aa na ca).ownBlock → PtOwn w' base (.slice A (na + n2) c) (na + n2) (all ++ ptsN id n2) → ((Value.slice A (na + n2) c).ownBlock = (Value.slice Aa na ca).ownBlock ∨ ∃ q, (Value.slice A (na + n2) c).ownBlock = some q ∧ wr0.heap.size ≤ q) → Q0 .normal ⟨#[u0, u1, u2, u3, u4, u5, u6, u7, u8, .slice A (na + n2) c, u10, u11, u12, u13, u14, u15, u16, .pointer (some ⟨gI, 0, none⟩), x18, u19, u20, u21, u22, u23, u24, u25, u26, u27, u28, u29, u30, u31, u32, u33, u34, u35, u36, u37, u38, u39, u40, u41, u42, u43, u44, u45, u46, u47, u48, u49, u50, u51, u52, u53, u54, u55, u56, u57, u58, u59, u60, u61, u62, u63, u64, u65, u66, u67, u68, u69, u70, u71, u72, u73, u74, u75, u76, u77, u78, u79, u80, u81, u82, u83, u84, u85, u86, u87, u88, u89, u90, u91, u92, u93, u94, u95, u96, u97, u98, u99, u100, u101, u102, u103, u104, .int .i64 (n2 : Int), x106, x107, x108, x109, x110, x111, x112, x113, x114, x115, x116, u117, u118, u119, u120, u121, u122, u123, u124], []⟩ w') : Code.wp Tryd.prog bdB6 Q0 ⟨#[u0, u1, u2, u3, u4, u5, u6, u7, u8, .slice Aa na ca, u10, u11, u12, u13, u14, u15, u16, .pointer (some ⟨gI, 0, none⟩), u18, u19, u20, u21, u22, u23, u24, u25, u26, u27, u28, u29, u30, u31, u32, u33, u34, u35, u36, u37, u38, u39, u40, u41, u42, u43, u44, u45, u46, u47, u48, u49, u50, u51, u52, u53, u54, u55, u56, u57, u58, u59, u60, u61, u62, u63, u64, u65, u66, u67, u68, u69, u70, u71, u72, u73, u74, u75, u76, u77, u78, u79, u80, u81, u82, u83, u84, u85, u86, u87, u88, u89, u90, u91, u92, u93, u94, u95, u96, u97, u98, u99, u100, u101, u102, u103, u104, .int .i64 (n2 : Int), .int .i64 0, u107, u108, u109, u110, u111, u112, u113, u114, u115, u116, u117, u118, u119, u120, u121, u122, u123, u124], []⟩ wr0 := by
  have HE := Lib.hid hexit
  have hUH := Tryd.underlying24
  have hnI : (n2 : Int) ≤ 1000000 := by omega
  have hgIl := heap_lt hgI0
  have HNE := Lib.hid hne
  clear hexit hne
  conv => arg 2; whnf
  go_wp2
  go_loopw [9, 106] (fun v9 v106 wr => ∃ (j : Nat) (A : Option Addr) (N c : Nat), j ≤ n2 ∧ v106 = .int .i64 j ∧ v9 = .slice A N c ∧ Hid (N = na + j) ∧ wr0.grownBy wr (Value.slice Aa na ca).ownBlock ∧ PtOwn wr base (.slice A N c) N (all ++ ptsN id j) ∧ Hid ((Value.slice A N c).ownBlock = (Value.slice Aa na ca).ownBlock ∨ ∃ q, (Value.slice A N c).ownBlock = some q ∧ wr0.heap.size ≤ q)) (fun _ v _ => n2 - (intOf v).toNat)
  case atStart => exact ⟨0, Aa, na, ca, by omega, rfl, rfl, Lib.hid rfl, World.grownBy.refl _ _, by simpa [ptsN] using hO0, Lib.hid (Or.inl rfl)⟩
  case round =>
    clear hO0
    obtain ⟨j, A, N, c, hj, rfl, rfl, HN, hG, hO, HOW⟩ := hrel
    have hsz := hG.size
    have hgI := heap_grown hG hgI0 HNE.out
    by_cases hlt : j < n2
    · have hlt' : (j : Int) < (n2 : Int) := by omega
      have hjj : (0 : Int) ≤ (j : Int) := by omega
      have hj32 : (j : Int) ≤ 4294967295 := by omega
      have hpt : PtOk (id, (j : Int)) := ⟨hd, hjj, hj32⟩
      have hN6 : N ≤ 2000000 := by have := HN.out; omega
      have hq1 : PtOwn (wr.alloc (.cells (ptL id (j : Int)).toArray 64)) base (.slice A N c) N (all ++ ptsN id j) := RK.Own.alloc hO _
      have hq2 := C1 (d := ptK) (x := (id, (j : Int))) (heap_alloc_new wr (.cells (ptL id (j : Int)).toArray 64)) ⟨rfl, hpt⟩
      have hq3 : base ≤ (wr.alloc (.cells (ptL id (j : Int)).toArray 64)).heap.size := by simp; omega
      have hq4 : (N + 1) * 36 ≤ 140737488355328 := by omega
      have hq5 : N + 1 ≤ maxLen := by unfold maxLen; omega
      go_upto_region 26 with (first
        | ((with_reducible refine wpList_at 110 ?_); refine wpList_load_row rfl 24 (.tmp 17) rfl gI rfl 24 _ _ _ hgI hUH rfl (info_h id hd.1) ?_)
        | ((with_reducible refine wpList_at 113 ?_); refine wpList_builtA rfl 64 _ rfl _ rfl (ptL id (j : Int)).toArray (built_point id hd.1 (j : Int)) ?_)
        | ((with_reducible refine wpList_at 114 ?_); refine wpList_build1 rfl 101 64 _ rfl Tryd.underlying101 _ 33 36 zinfo_pt (by decide) (by decide) (ptL id (j : Int)) (ptL_length hd.1 _) rfl rfl ?_)
        | ((with_reducible refine wpList_at 115 ?_); refine RK.wpList_appK ptK _ rfl (.tmp 109) (.tmp 114) 101 rfl (fun _ => False) base 64 _ 36 Tryd.underlying101 zinfo_pt rfl (by decide) (.slice A N c) N _ rfl hq1 (fun _ h => h.elim) _ 1 1 [(id, (j : Int))] rfl (fun _ => True) hq2 (fun _ _ h => h) (N + 1) _ rfl rfl hq5 hq4 hq3 ?_
           intro A6 c6 w6 hO6 hG6 hx6))
      have hGz : wr0.grownBy w6 (Value.slice Aa na ca).ownBlock := (hG.andThen (World.grownBy_alloc wr (.cells (ptL id (j : Int)).toArray 64) none) (fun q e => by cases e)).andThen hG6 (fun q e => by
        rcases HOW.out with h | ⟨q', h, hq⟩
        · exact Or.inr (h ▸ e)
        · rw [h] at e; exact Or.inl (by rw [← Option.some.inj e]; exact hq))
      have HOW2 : Hid ((Value.slice A6 (N + 1) c6).ownBlock = (Value.slice Aa na ca).ownBlock ∨ ∃ q, (Value.slice A6 (N + 1) c6).ownBlock = some q ∧ wr0.heap.size ≤ q) := Lib.hid (by
        rcases hx6 with h | h
        · rw [h]; exact HOW.out
        · exact Or.inr ⟨_, h, by simp; omega⟩)
      rw [List.append_assoc, ← ptsN_succ] at hO6
      clear hq1 hq2 hq3 hq4 hq5 hG6 hx6 hO hgI hG
      go_wp2
      go_roundw
      case rel => exact ⟨j + 1, A6, N + 1, c6, by omega, by go_num, rfl, Lib.hid (by rw [HN.out]; omega), hGz, hO6, HOW2⟩
      case measure => simp [intOf]; omega
    · have hlt' : ¬ (j : Int) < (n2 : Int) := by omega
      have hjn : j = n2 := by omega
      subst hjn
      have hNN := HN.out
      subst hNN
      go_wp2
      exact HE.out _ _ _ _ _ _ _ _ _ _ _ _ A c _ hG hO HOW.out
end Go.Proofs.YtclkgflficlmiaaDoor
end

/-! ## BldM0 -/
section
set_option maxRecDepth 100000
set_option linter.unusedVariables false
namespace Go.Proofs.YtclkgflficlmiaaDoor
open Go Go.RowKit
theorem small_layB {t : TTx} (hok : t.Ok) (h : SmallT t) : (layF t false).length ≤ 9000000000 := by
  have h1 := flat_len layIn 343 t.ins (fun x hx => small_in (hok.ins x hx).idl (h.ins x hx))
  have h3 := flat_len layOut 311 t.outs (fun x hx => by
    have := text_small (h.outs x hx)
    unfold layOut
    simp only [List.length_append, leF_length]
    omega)
  have h4 := h.il
  have h5 := h.ol
  have c1 : (compF t.ins.length).length = 1 := by rw [compF_length, if_pos (by omega)]
  have c2 : (compF t.outs.length).length = 1 := by rw [compF_length, if_pos (by omega)]
  unfold layF
  simp only [List.length_append, leF_length, c1, c2, Bool.false_eq_true, if_false, List.length_nil]
  omega
theorem insB_length (all : List Pt) (frm : List Int) : (insB all frm).length ≤ frm.length := by
  unfold insB
  split
  · exact Nat.zero_le _
  · rw [List.length_map]; exact Nat.le_refl _
theorem small_inB (p : Pt) : SmallI (inB p) := ⟨by show (⟨#[]⟩ : ByteArray).size ≤ 300; decide, Nat.zero_le _, (fun s hs => by cases hs)⟩
theorem small_firstB (s : Int) : SmallI (firstB s) := ⟨by show (⟨#[]⟩ : ByteArray).size ≤ 300; decide, Nat.zero_le _, (fun s hs => by cases hs)⟩
theorem small_txB (s : Int) (i : Nat) (p : TPay) (all : List Pt) (h1 : p.1.length ≤ 6) (h2 : p.2.1.length ≤ 6) : SmallT (txB s i p all) := by
  refine ⟨?_, ?_, ?_, ?_⟩
  · show (if i = 0 then [firstB s] else insB all p.1).length ≤ 10
    split
    · exact (by decide : 1 ≤ 10)
    · have := insB_length all p.1; omega
  · show (p.2.1.map ouB).length ≤ 10
    rw [List.length_map]; omega
  · intro x hx
    have hx : x ∈ (if i = 0 then [firstB s] else insB all p.1) := hx
    split at hx
    · rw [List.mem_singleton.1 hx]; exact small_firstB s
    · unfold insB at hx
      split at hx
      · cases hx
      · obtain ⟨z, _, rfl⟩ := List.mem_map.1 hx
        exact small_inB _
  · intro x hx
    have hx : x ∈ p.2.1.map ouB := hx
    obtain ⟨z, _, rfl⟩ := List.mem_map.1 hx
    show (scF z.2).size ≤ 300
    rw [scF_size]
    decide
theorem bldT_step {pays : List TPay} {i : Nat} {q : TPay} (hq : pays[i]? = some q) (s : Int) (all : List Pt) : bldT s i (pays.drop i) all = (txB s i q all :: (bldT s (i + 1) (pays.drop (i + 1)) (all ++ ptsB (txB s i q all))).1, (bldT s (i + 1) (pays.drop (i + 1)) (all ++ ptsB (txB s i q all))).2) := by
  obtain ⟨hi, he⟩ := List.getElem?_eq_some_iff.1 hq
  rw [List.drop_eq_getElem_cons hi, he, bldT]
theorem built_hdN (s : Int) : Tryd.prog.built 37 [(5, .int .u32 s)] = some (⟨0, zeros32, zeros32, 0, 0, s⟩ : Hd).cells.toArray := by kernel_rfl
theorem hdN_ok {s : Int} (h0 : 0 ≤ s) (h1 : s ≤ 4294967295) : (⟨0, zeros32, zeros32, 0, 0, s⟩ : Hd).Ok := ⟨by show (-2147483648 : Int) ≤ 0; omega, by show (0 : Int) ≤ 2147483647; omega, zeros32_dig, zeros32_dig, by show (0 : Int) ≤ 0; omega, by show (0 : Int) ≤ 4294967295; omega, by show (0 : Int) ≤ 0; omega, by show (0 : Int) ≤ 4294967295; omega, h0, h1⟩
theorem in1_C {w : World} {g : Nat} {x : TIn} (h : w.heap[g]? = some (.cells (inCells x (.slice none 0 0)).toArray 67)) (hx : x.Ok) (hw : x.wit = []) {S : Nat → Prop} (hS : S g) : inK.C S w (some ⟨g, 0, none⟩) 1 [x] := by
  refine ⟨rfl, fun _ => ⟨g, 0, rfl, hS, heap_lt h, fun i y hy => ?_⟩⟩
  obtain rfl : i = 0 := by have := (List.getElem?_eq_some_iff.1 hy).1; simp at this; omega
  obtain rfl : x = y := by simpa using hy
  refine ⟨_, ⟨none, 0, 0, rfl, hx, Nat.le_refl _, by decide, by rw [hw]; exact RK.C.nil _ _ _ _⟩, fun j v hv => ?_⟩
  rw [show 0 + 0 * inK.sz + j = j by omega]
  exact blk_cell h (by rw [List.getElem?_toArray]; exact hv)
theorem in0_C {w : World} {base n c : Nat} {A : Option Addr} {xs : List TIn} (h : InOwn w base (.slice A n c) n xs) {S : Nat → Prop} (hS : ∀ b, (Value.slice A n c).ownBlock = some b → S b) : inK.C S w A n xs := by
  have h1 := RK.Own.C_ (S' := S) h (fun _ h => h.elim) hS
  refine ⟨h1.1, fun hn => ?_⟩
  obtain ⟨b, o, q1, q2, q3, q4⟩ := h1.2 hn
  refine ⟨b, o, q1, q2, q3, fun i x hx => ?_⟩
  obtain ⟨cs, ⟨rfl, k2, k3⟩, hcs⟩ := q4 i x hx
  exact ⟨_, ⟨none, 0, 0, rfl, k2, Nat.le_refl _, by decide, by rw [k3]; exact RK.C.nil _ _ _ _⟩, hcs⟩
theorem bl_ins {u0 u1 u2 u3 u4 u5 u6 u7 u8 u11 u13 u14 u15 u16 u17 u18 u19 u20 u21 u22 u23 u24 u25 u26 u27 u28 u29 u30 u31 u32 u33 u34 u35 u36 u37 u38 u39 u40 u41 u42 u43 u44 u45 u46 u50 u51 u52 u53 u54 u55 u56 u57 u58 u59 u60 u61 u62 u63 u64 u65 u66 u67 u68 u69 u70 u71 u72 u73 u74 u75 u76 u77 u78 u79 u80 u81 u82 u83 u84 u85 u86 u87 u88 u89 u90 u91 u92 u93 u94 u95 u96 u97 u98 u99 u100 u101 u102 u103 u104 u105 u106 u107 u108 u109 u110 u111 u112 u113 u114 u115 u116 u117 u118 u119 u120 u121 u122 u123 u124 : Value} (wr0 : World) (i na ca nf cf gT : Nat) (Aa Af : Option Addr) (hnc : na ≤ ca) (hcm : ca ≤ maxLen) (hgl : gT < wr0.heap.size) (all : List Pt) (hA : ptK.C (· < gT) wr0 Aa na all) (frm : List Int) (hnf : nf ≤ 6) (hF : (RK.int .i64).C (· < gT) wr0 Af nf frm)
    (ver lock : Int) (V2 : Value) (s : Int) (A0 : Option Addr) (n0 c0 : Nat) (hn0 : n0 ≤ c0) (hc0 : c0 ≤ maxLen) (hI0 : inK.C (gT < ·) wr0 A0 n0 (if i = 0 then [firstB s] else [])) (h00 : i ≠ 0 → A0 = none ∧ n0 = 0 ∧ c0 = 0) (hgT0 : wr0.heap[gT]? = some (.cells #[.int .i32 ver, .slice A0 n0 c0, V2, .int .u32 lock] 54)) (Q0 : Exit → Act → World → Prop)
    (hexit : ∀ x14 x49 x50 x51 x52 x53 x54 x55 x56 x57 x58 x59 x60 x61 x62 x63 x64 x65 x66 x67 x68 x69 x70 x71 x72 x73 x74 A1 n1 c1 w', wr0.grownBy w' (some gT) → w'.heap[gT]? = some (.cells #[.int .i32 ver, .slice A1 n1 c1, V2, .int .u32 lock] 54) → inK.C (gT < ·) w' A1 n1 (if i = 0 then [firstB s] else insB all frm) → n1 ≤ c1 → c1 ≤ maxLen → Q0 .normal ⟨#[u0, u1, u2, u3, u4, u5, u6, u7, u8, .slice Aa na ca, .int .i64 (i : Int), u11, .pointer (some ⟨gT, 0, none⟩), u13, x14, u15, u16, u17, u18, u19, u20, u21, u22, u23, u24, u25, u26, u27, u28, u29, u30, u31, u32, u33, u34, u35, u36, u37, u38, u39, u40, u41, u42, u43, u44, u45, u46, .slice Af nf cf, .int .i64 (nf : Int), x49, x50, x51, x52, x53, x54, x55, x56, x57, x58, x59, x60, x61, x62, x63, x64, x65, x66, x67, x68, x69, x70, x71, x72, x73, x74, u75, u76, u77, u78, u79, u80, u81, u82, u83, u84, u85, u86, u87, u88, u89, u90, u91, u92, u93, u94, u95, u96, u97, u98, u99, u100, u101, u102, u103, u104, u105, u106, u107, u108, u109, u110, u111, u112, u113, u114, u115, u116, u117, u118, u119, u120, u121, u122, u123, u124], []⟩ w') : Code.wp Tryd.prog bdB2 Q0 ⟨#[u0, u1, u2, u3, u4, u5, u6, u7, u8, .slice Aa na ca, .int .i64 (i : Int), u11, .pointer (some ⟨gT, 0, none⟩), u13, u14, u15, u16, u17, u18, u19, u20, u21, u22, u23, u24, u25, u26, u27, u28, u29, u30, u31, u32, u33, u34, u35, u36, u37, u38, u39, u40, u41, u42, u43, u44, u45, u46, .slice Af nf cf, .int .i64 (nf : Int), .int .i64 0, u50, u51, u52, u53, u54, u55, u56, u57, u58, u59, u60, u61, u62, u63, u64, u65, u66, u67, u68, u69, u70, u71, u72, u73, u74, u75, u76, u77, u78, u79, u80, u81, u82, u83, u84, u85, u86, u87, u88, u89, u90, u91, u92, u93, u94, u95, u96, u97, u98, u99, u100, u101, u102, u103, u104, u105, u106, u107, u108, u109, u110, u111, u112, u113, u114, u115, u116, u117, u118, u119, u120, u121, u122, u123, u124], []⟩ wr0 := by
  have hal := hA.len
  by_cases hz : i = 0 ∨ na = 0
  · refine bl_ins0 wr0 i na ca nf cf gT Aa Af hz (· < gT) frm hnf hF Q0 ?_
    intro x0 x1 x2 x3 x4 x5 x6 x7 x8 x9 x10 x11 x12 x13 x14 x15 x16 x17 x18 x19 x20 x21 x22 x23 x24 x25 x26
    refine hexit x0 x1 x2 x3 x4 x5 x6 x7 x8 x9 x10 x11 x12 x13 x14 x15 x16 x17 x18 x19 x20 x21 x22 x23 x24 x25 x26 A0 n0 c0 wr0 (World.grownBy.refl _ _) hgT0 ?_ hn0 hc0
    by_cases hi : i = 0
    · rw [if_pos hi] at hI0 ⊢
      exact hI0
    · rw [if_neg hi] at hI0 ⊢
      have hna : all = [] := List.eq_nil_of_length_eq_zero (by rw [hal]; exact hz.resolve_left hi)
      unfold insB
      rw [if_pos hna]
      exact hI0
  · have hi : i ≠ 0 := fun h => hz (Or.inl h)
    have hna : na ≠ 0 := fun h => hz (Or.inr h)
    obtain ⟨rfl, rfl, rfl⟩ := h00 hi
    refine bl_ins1 wr0 i na ca nf cf gT Aa Af (by omega) (by omega) hnc hcm hgl all hA frm hnf hF ver lock V2 hgT0 Q0 ?_
    intro x0 x1 x2 x3 x4 x5 x6 x7 x8 x9 x10 x11 x12 x13 x14 x15 x16 x17 x18 x19 x20 x21 x22 x23 x24 x25 x26 A c w' q1 q2 q3
    refine hexit x0 x1 x2 x3 x4 x5 x6 x7 x8 x9 x10 x11 x12 x13 x14 x15 x16 x17 x18 x19 x20 x21 x22 x23 x24 x25 x26 A nf c w' q1 q2 ?_ q3.le_.1 q3.le_.2
    rw [if_neg hi]
    have e : insB all frm = frm.map (fun x => inB (pickB all x)) := by
      unfold insB
      rw [if_neg (fun h => hna (by rw [← hal, h]; rfl))]
    rw [e]
    exact in0_C q3 (fun b hb => by have := (RK.Own.lt q3 b hb).1; show gT < b; omega)
end Go.Proofs.YtclkgflficlmiaaDoor
end

/-! ## BldS -/
section
set_option maxRecDepth 100000
set_option linter.unusedVariables false
namespace Go.Proofs.YtclkgflficlmiaaDoor
open Go Go.RowKit
def putL (C : Array Value) : Nat → List Value → Array Value
  | _, [] => C
  | o, v :: vs => putL (C.setIfInBounds o v) (o + 1) vs
theorem setCells_block {g : Nat} {t : TypeId} : ∀ (vs : List Value) (o : Nat) (w : World) (C : Array Value), w.heap[g]? = some (.cells C t (0, 0)) → (w.setCells g o vs).heap[g]? = some (.cells (putL C o vs) t (0, 0)) ∧ Turned w g (w.setCells g o vs)
  | [], o, w, C, h => ⟨h, ⟨rfl, rfl, rfl, rfl, fun _ _ => rfl⟩⟩
  | v :: vs, o, w, C, h => by
    have h1 := blk_set h o v
    have ht := turned_setCell w g o v
    obtain ⟨k1, k2⟩ := setCells_block vs (o + 1) (w.setCell ⟨g, o, none⟩ v) _ h1
    exact ⟨k1, ⟨k2.os.trans ht.os, k2.tape.trans ht.tape, k2.output.trans ht.output, k2.size.trans ht.size, fun q hq => (k2.block q hq).trans (ht.block q hq)⟩⟩
theorem putL_mid : ∀ (vs old pre post : List Value), old.length = vs.length → putL (pre ++ (old ++ post)).toArray pre.length vs = (pre ++ (vs ++ post)).toArray
  | [], old, pre, post, h => by
    have : old = [] := List.eq_nil_of_length_eq_zero h
    rw [this]
    rfl
  | v :: vs, [], pre, post, h => by cases h
  | v :: vs, x :: old, pre, post, h => by
    have ih := putL_mid vs old (pre ++ [v]) post (by simpa using h)
    rw [putL]
    have e : (pre ++ (x :: old ++ post)).toArray.setIfInBounds pre.length v = ((pre ++ [v]) ++ (old ++ post)).toArray := by
      apply Array.ext'
      rw [Array.toList_setIfInBounds, List.toList_toArray, List.toList_toArray, List.set_append_right _ _ (Nat.le_refl _), Nat.sub_self]
      simp
    rw [e]
    have e2 : (pre ++ [v]).length = pre.length + 1 := by simp
    rw [e2] at ih
    rw [ih]
    simp
theorem blkCells_root (h : Hd) (root : List Int) (hp : h.prev.length = 32) (hr : h.root.length = 32) (h2 : root.length = 32) (A : Option Addr) (n c : Nat) : putL (blkCells h A n c).toArray 33 (nums .u8 root) = (blkCells { h with root := root } A n c).toArray := by
  have h1 := putL_mid (nums .u8 root) (nums .u8 h.root) (.int .i32 h.ver :: nums .u8 h.prev) ([.int .u32 h.time, .int .u32 h.bits, .int .u32 h.nonce] ++ [.slice A n c]) (by rw [nums_length, nums_length, hr, h2])
  have e : (Value.int .i32 h.ver :: nums .u8 h.prev).length = 33 := by rw [List.length_cons, nums_length, hp]
  rw [e] at h1
  unfold blkCells Hd.cells
  simpa using h1
theorem wpList_store_in {P : Program} {ops : Array Oper} {rest : List Oper} {op : Oper} {a : Act} {w : World} {Q : Exit → Act → World → Prop} (hgd : op.guard = none) (ty : TypeId) (x y : Operand) (ho : op.op = .store ty x y)
    (b o : Nat) (cells : Array Value) (hx : a.eval x = .pointer (some ⟨b, o, none⟩)) (hy : a.eval y = .agg cells) (t : TypeId) (C : Array Value) (hC : w.heap[b]? = some (.cells C t (0, 0))) (hl : o + cells.size ≤ C.size) (hi : (P.info? ty).map (·.size) = some cells.size) (h1 : cells.all (·.oneCell') = true)
    (h : ∀ w', w'.heap[b]? = some (.cells (putL C o cells.toList) t (0, 0)) → Turned w b w' → wpList P ops Q rest (a.put op.dst undef) w') : wpList P ops Q (op :: rest) a w := by
  obtain ⟨k1, k2⟩ := setCells_block cells.toList o w C hC
  refine wpList_store_mid hgd ty x y ho b o cells hx hy (fun j hj => ⟨?_, blk_frozen hC _⟩) hi h1 (h _ k1 k2)
  rw [blk_cell hC (Array.getElem?_eq_getElem (show o + j < C.size by omega))]
  rfl
theorem bldT_small (s : Int) : ∀ (ps : List TPay) (i : Nat) (all : List Pt), (∀ p ∈ ps, p.1.length ≤ 6 ∧ p.2.1.length ≤ 6) → ∀ t ∈ (bldT s i ps all).1, SmallT t
  | [], i, all, _, t, ht => by cases ht
  | p :: r, i, all, h, t, ht => by
    rw [bldT] at ht
    rcases List.mem_cons.1 ht with rfl | ht
    · exact small_txB s i p all (h p (by simp)).1 (h p (by simp)).2
    · exact bldT_small s r (i + 1) _ (fun q hq => h q (by simp [hq])) t ht
end Go.Proofs.YtclkgflficlmiaaDoor
end

/-! ## BldM -/
section
set_option maxRecDepth 100000
set_option linter.unusedVariables false
namespace Go.Proofs.YtclkgflficlmiaaDoor
open Go Go.RowKit
def BldPost (w : World) (s : Int) (r : List TTx × List Pt) (e : Ending) (w' : World) : Prop :=
  Below w.heap.size w w' ∧ ∃ At ct Al cl, e = .returned (.tuple #[.agg (blkCells (bldH s r.1) At r.1.length ct).toArray, .slice Al r.2.length cl]) ∧ r.1.length ≤ ct ∧ ct ≤ maxLen ∧ txK.C (fun b => w.heap.size ≤ b) w' At r.1.length r.1 ∧ PtOwn w' w.heap.size (.slice Al r.2.length cl) r.2.length r.2
/-- The transactions so far, and what lies in them. -/
abbrev TxS (lo : Nat) (vT vA : Value) (q : Nat) : Prop := lo ≤ q ∧ some q ≠ vT.ownBlock ∧ some q ≠ vA.ownBlock
set_option maxHeartbeats 16000000 in
theorem build_calls (w : World) (hT : Tabs w) (hN : Now w) (S1 S2 : Nat → Prop) (Ap : Option Addr) (np cp : Nat) (pays : List TPay) (hnp : np ≤ cp) (hcp : cp ≤ maxLen) (hP : payK.C S1 w Ap np pays) (hpo : PaysOk pays) (Ao : Option Addr) (no co : Nat) (outs : List Pt) (hno : no ≤ 100000) (hO : ptK.C S2 w Ao no outs) (seed : Int) (s : Int) (hs : IntKind.u32.wrap seed = s) (hs0 : 0 ≤ s) (hs1 : s ≤ 4294967295) :
    Calls Tryd.prog 46 #[.slice Ap np cp, .slice Ao no co, .int .i64 seed] w (BldPost w s (bldT s 0 pays outs)) := by
  have hUB := Tryd.underlying49
  have hUT := Tryd.underlying54
  have hUY := Tryd.underlying139
  have hok0 := hdN_ok hs0 hs1
  have hln := Lib.hid hP.len
  have hlo := Lib.hid hO.len
  have HPO := Lib.hid hpo
  have hnp6 : np ≤ 6 := by have := hpo.1; have := hP.len; omega
  have hnpI : (np : Int) ≤ 6 := by omega
  have g0 := heap_alloc_new w (.cells (blkCells hd0 none 0 0).toArray 49)
  have hb0 : Below w.heap.size w (w.alloc (.cells (blkCells hd0 none 0 0).toArray 49)) := (Below.refl _ _).alloc (Nat.le_refl _) _
  clear hpo
  go_enter Tryd.func46, Tryd.ntmps46
  go_upto_region 1 with fail
  refine wp_gen (q := fun wi => Below w.heap.size w wi ∧ wi.heap[w.heap.size]? = some (.cells (blkCells hd0 none 0 0).toArray 49)) ⟨hb0, g0⟩ (fun w0 hw => ?_)
  clear hb0 g0
  obtain ⟨hb0, gR0⟩ := hw
  have hR := heap_lt gR0
  go_upto_region 2 with (first
    | ((with_reducible refine wpList_at 21 ?_); refine wpList_builtA rfl 37 _ rfl [(5, .int .u32 s)] rfl (⟨0, zeros32, zeros32, 0, 0, s⟩ : Hd).cells.toArray (built_hdN s) ?_)
    | ((with_reducible refine wpList_at 22 ?_); refine wpList_build_blk rfl _ rfl (⟨0, zeros32, zeros32, 0, 0, s⟩ : Hd) hok0 rfl ?_)
    | ((with_reducible refine wpList_atS 8 ?_); refine wpList_store_any rfl 49 (.tmp 8) (.tmp 22) rfl w0.heap.size (blkCells (⟨0, zeros32, zeros32, 0, 0, s⟩ : Hd) none 0 0).toArray rfl rfl 49 (blkCells hd0 none 0 0).toArray (heap_alloc_new _ _) (info_blkA hok0 none 0 0) (by rw [List.size_toArray, List.size_toArray, blkCells_length hok0, blkCells_length hd0_ok]) (blkCells_all (⟨0, zeros32, zeros32, 0, 0, s⟩ : Hd) none 0 0) ?_; intro w1 gB1 ht1))
  have hb1 : Below w0.heap.size w0 w1 := ht1.below ((Below.refl _ _).alloc (Nat.le_refl _) _) (Nat.le_refl _)
  have hB := heap_lt gB1
  have hoe := RK.Own.empty ptK (fun _ => False) (w := w1) (base := w1.heap.size) 64 (Nat.le_refl _)
  have hOa : ptK.C S2 (w1.alloc (.cells #[] 64)) Ao no outs := (RK.C.below (RK.C.below (RK.C.below hO hb0) hb1) ((Below.refl _ _).alloc (Nat.le_refl _) _))
  have hle1 : w1.heap.size ≤ (w1.alloc (.cells #[] 64)).heap.size := by simp
  clear ht1
  go_upto_region 3 with (first
    | ((with_reducible refine wpList_at 25 ?_); refine RK.wpList_appK ptK _ rfl (.tmp 23) (.tmp 24) 101 rfl (fun _ => False) w1.heap.size 64 _ 36 Tryd.underlying101 zinfo_pt rfl (by decide) (.slice (some ⟨w1.heap.size, 0, none⟩) 0 0) 0 [] rfl hoe (fun _ h => h.elim) Ao no co outs rfl S2 hOa (fun _ _ h => h) no outs (Nat.zero_add _) (List.nil_append _) (by unfold maxLen; omega) (by omega) hle1 ?_
       intro A3 c3 w2 hA2 hG hx))
  have hb2 : Below w0.heap.size w0 w2 := (hb1.alloc hb1.size _).grown hG (by simp; have := hb1.size; omega) (fun q e => by have := (RK.Own.lt hoe q e).1; have := hb1.size; omega)
  have gB2 := heap_grown hG (blk_alloc gB1 (.cells #[] 64)) (fun e => by have := (RK.Own.lt hoe _ e.symm).1; omega)
  have hs2 : w1.heap.size ≤ w2.heap.size := by have := hG.size; simp at this; omega
  clear hoe hOa hle1 hG hx gB1 hb1
  have hT0 : txK.Own (TxS w1.heap.size (.slice none 0 0) (.slice A3 no c3)) w2 w1.heap.size 54 (.slice none 0 0) 0 [] := RK.Own.nil _ _ _ _ _
  have HB0 : Hid (bldT s 0 pays outs = ([] ++ (bldT s 0 (pays.drop 0) outs).1, (bldT s 0 (pays.drop 0) outs).2)) := Lib.hid (by rw [List.drop_zero]; rfl)
  go_wp2
  go_loopw [9, 28] (fun v9 v28 wr => ∃ (i : Nat) (At : Option Addr) (ct : Nat) (Aa : Option Addr) (na ca : Nat) (ts : List TTx) (all : List Pt), i ≤ np ∧ v28 = .int .i64 i ∧ v9 = .slice Aa na ca ∧ na ≤ no + 6 * i ∧ Hid (bldT s 0 pays outs = (ts ++ (bldT s i (pays.drop i) all).1, (bldT s i (pays.drop i) all).2)) ∧
      wr.heap[w0.heap.size]? = some (.cells (blkCells (⟨0, zeros32, zeros32, 0, 0, s⟩ : Hd) At i ct).toArray 49) ∧ txK.Own (TxS w1.heap.size (.slice At i ct) (.slice Aa na ca)) wr w1.heap.size 54 (.slice At i ct) i ts ∧ PtOwn wr w1.heap.size (.slice Aa na ca) na all ∧ Below w0.heap.size w0 wr ∧ w1.heap.size ≤ wr.heap.size) (fun _ v _ => np - (intOf v).toNat)
  case atStart => exact ⟨0, none, 0, A3, no, c3, [], outs, by omega, rfl, rfl, by omega, HB0, gB2, hT0, hA2, hb2, hs2⟩
  case round =>
    clear hT0 HB0 gB2 hA2 hb2 hs2
    obtain ⟨i, At, ct, Aa, na, ca, ts, all, hi, rfl, rfl, hna, HB, gB, hTx, hA, hb, hsz⟩ := hrel
    have hbw := below_then hb0 hb0.size hb
    by_cases hlt : i < np
    · have hlt' : (i : Int) < (np : Int) := by omega
      have hii : (0 : Int) ≤ (i : Int) := by omega
      obtain ⟨b, o, cs, q, hAp, hq, hK, hc⟩ := (RK.C.below hP hbw).get i hlt
      subst hAp
      have HQ := Lib.hid hq
      obtain ⟨hq1, hq2⟩ := HPO.out.2 q (List.mem_of_getElem? hq)
      obtain ⟨frm, gs, lock⟩ := q
      obtain ⟨_, _, rfl, ⟨Af, nf, cf, rfl, hf1, hf2, hfC⟩, ⟨_, _, rfl, ⟨Ag, ng, cg, rfl, hg1, hg2, hgC⟩, ⟨rfl, hl0, hl1⟩⟩⟩ := hK
      simp only at hq1 hq2
      have hnf : nf ≤ 6 := by have := hfC.len; simp only at this; omega
      have hng : ng ≤ 6 := by have := hgC.len; simp only at this; omega
      have hng' := Lib.hid hgC.len
      have hcr : wr.rangeAt b (o + i * 3) [.slice Af nf cf, .slice Ag ng cg, .int .i64 lock] := hc
      have hiY : (Tryd.prog.info? 139).map (·.size) = some ([.slice Af nf cf, .slice Ag ng cg, .int .i64 lock] : List Value).length := by rw [show ([.slice Af nf cf, .slice Ag ng cg, .int .i64 lock] : List Value).length = 3 from rfl]; kernel_rfl
      have hm := i64_mask255 lock
      obtain ⟨y, hy⟩ : ∃ y, lock % 256 = y := ⟨_, rfl⟩
      have hy0 := Int.emod_nonneg lock (show (256 : Int) ≠ 0 by decide)
      have hy1 := Int.emod_lt_of_pos lock (show (0 : Int) < 256 by decide)
      rw [hy] at hm hy0 hy1
      have HY := Lib.hid hy
      clear hc hq hy hl0 hl1
      go_upto_region 6 with (first
        | ((with_reducible refine wpList_at 32 ?_); refine wpList_load_mid rfl 139 (.tmp 31) rfl b (o + i * 3) rfl [.slice Af nf cf, .slice Ag ng cg, .int .i64 lock] _ hcr hUY rfl hiY ?_))
      refine wp_gen (q := fun wi => wi.heap[wr.heap.size]? = some (.cells #[.slice Af nf cf, .slice Ag ng cg, .int .i64 lock] 139) ∧ Below wr.heap.size wr wi) ⟨heap_alloc_new _ _, (Below.refl _ _).alloc (Nat.le_refl _) _⟩ (fun wa hw => ?_)
      obtain ⟨gPa, hba⟩ := hw
      have p2 := blk_cell gPa (i := 2) (v := .int .i64 lock) rfl
      go_upto_region 7 with fail
      refine wp_gen (q := fun wi => wi.heap[wa.heap.size]? = some (.cells #[.int .i32 1, .slice none 0 0, .slice none 0 0, .int .u32 y] 54) ∧ Below wa.heap.size wa wi) ⟨heap_alloc_new _ _, (Below.refl _ _).alloc (Nat.le_refl _) _⟩ (fun wb hw => ?_)
      obtain ⟨gTb, hbb⟩ := hw
      have gPb := heap_below hbb gPa
      have hPl := heap_lt gPa
      have hTl := heap_lt gTb
      have hbab := below_then hba hba.size hbb
      have gBb := heap_below hbab gB
      have hTxb := hTx.below hbab
      have hAb := hA.below hbab
      have hbb0 := below_then hb hb.size hbab
      have hbwb := below_then hbw hbw.size hbab
      have hTlt := Lib.hid (fun q e => (RK.Own.lt hTx q e).2 : ∀ q, (Value.slice At i ct).ownBlock = some q → q < wr.heap.size)
      have hAlt := Lib.hid (fun q e => (RK.Own.lt hA q e).2 : ∀ q, (Value.slice Aa na ca).ownBlock = some q → q < wr.heap.size)
      have hTxr : txK.Own (fun q => w1.heap.size ≤ q ∧ q < wr.heap.size ∧ some q ≠ (Value.slice At i ct).ownBlock ∧ some q ≠ (Value.slice Aa na ca).ownBlock) wb w1.heap.size 54 (.slice At i ct) i ts := ((RK.Own.restr txK_restr hTx).mono_ (fun q h => ⟨h.1.1, h.2, h.1.2⟩)).below hbab
      have hfCb := RK.C.below hfC hbab
      have hgCb := RK.C.below hgC hbab
      have hfCr : (RK.int .i64).C (· < wa.heap.size) wb Af nf frm := by
        refine ⟨hfCb.1, fun hn => ?_⟩
        obtain ⟨b', o', q1, q2, q3, q4⟩ := hfCb.2 hn
        obtain ⟨b'', o'', q1', _, q3'⟩ := hfC.addr hn
        rw [q1] at q1'
        injection q1' with q1'
        injection q1' with q5 q6
        have := hba.size
        exact ⟨b', o', q1, by show b' < _; rw [q5]; omega, q3, q4⟩
      have hgCr : giveK.C (· < wa.heap.size) wb Ag ng gs := by
        refine ⟨hgCb.1, fun hn => ?_⟩
        obtain ⟨b', o', q1, q2, q3, q4⟩ := hgCb.2 hn
        obtain ⟨b'', o'', q1', _, q3'⟩ := hgC.addr hn
        rw [q1] at q1'
        injection q1' with q1'
        injection q1' with q5 q6
        have := hba.size
        exact ⟨b', o', q1, by show b' < _; rw [q5]; omega, q3, q4⟩
      have hACr : ptK.C (· < wa.heap.size) wb Aa na all := RK.Own.C_ hAb (fun _ h => h.elim) (fun q e => by have := hAlt.out q e; have := hba.size; show q < _; omega)
      have hAle := hA.le_
      have hNb := hN.below hbwb
      clear gPa p2 gB hTx hA hb hbw hba hbb hbab hcr hfCb hgCb hfC hgC hTxb
      go_upto_if 39 with fail
      go_cut [] from 39 to 45 (fun wd => ∃ A0 n0 c0, wd.heap[wa.heap.size]? = some (.cells #[.int .i32 1, .slice A0 n0 c0, .slice none 0 0, .int .u32 y] 54) ∧ inK.C (wa.heap.size < ·) wd A0 n0 (if i = 0 then [firstB s] else []) ∧ n0 ≤ c0 ∧ c0 ≤ maxLen ∧ Hid (i ≠ 0 → A0 = none ∧ n0 = 0 ∧ c0 = 0) ∧ wb.grownBy wd (some wa.heap.size))
      case first =>
        by_cases hi0 : i = 0
        · subst hi0
          have hi0' : (((0 : Nat) : Int) == 0) = true := rfl
          go_wp2_with fail
          refine (nowhere_calls wb hNb).mono ?_
          rintro e w3 ⟨rfl, hb3⟩
          have gT3 := heap_below hb3 gTb
          have hTl3 := heap_lt gT3
          have hall := heap_alloc_new w3 (.cells (inCells (firstB s) (.slice none 0 0)).toArray 67)
          have gT3a := blk_alloc gT3 (.cells (inCells (firstB s) (.slice none 0 0)).toArray 67)
          have d1 := blk_cell gT3a (i := 1) (v := .slice none 0 0) rfl
          have f1 := blk_frozen gT3a 1
          go_wp2_with (first
            | ((with_reducible refine wpList_at 43 ?_); refine wpList_builtA rfl 67 _ rfl [(0, .agg (ptL zeros32 4294967295).toArray), (2, .int .u32 s)] rfl (inCells (firstB s) (.slice none 0 0)).toArray (built_in82 s) ?_)
            | ((with_reducible refine wpList_at 44 ?_); refine wpList_build1 rfl 51 67 _ rfl Tryd.underlying51 _ 36 88 zinfo_in (by decide) (by decide) (inCells (firstB s) (.slice none 0 0)) (inCells_length rfl _) rfl rfl ?_))
          have hT3 := turned_setCell w3 wa.heap.size 1 (.slice (some ⟨w3.heap.size, 0, none⟩) 1 1)
          have gz := blk_alloc (blk_set gT3 1 (.slice (some ⟨w3.heap.size, 0, none⟩) 1 1)) (.cells (inCells (firstB s) (.slice none 0 0)).toArray 67)
          have hzn := heap_alloc_new (w3.setCell ⟨wa.heap.size, 1, none⟩ (.slice (some ⟨w3.heap.size, 0, none⟩) 1 1)) (.cells (inCells (firstB s) (.slice none 0 0)).toArray 67)
          rw [hT3.size] at hzn
          have hIz : inK.C (wa.heap.size < ·) ((w3.setCell ⟨wa.heap.size, 1, none⟩ (.slice (some ⟨w3.heap.size, 0, none⟩) 1 1)).alloc (.cells (inCells (firstB s) (.slice none 0 0)).toArray 67)) (some ⟨w3.heap.size, 0, none⟩) 1 [firstB s] := in1_C hzn (firstB_ok hs0 hs1) rfl (by show wa.heap.size < _; omega)
          have hGz : wb.grownBy ((w3.setCell ⟨wa.heap.size, 1, none⟩ (.slice (some ⟨w3.heap.size, 0, none⟩) 1 1)).alloc (.cells (inCells (firstB s) (.slice none 0 0)).toArray 67)) (some wa.heap.size) := ((grown_of_below hb3 (some wa.heap.size)).andThen hT3.grown (fun q e => Or.inr e)).andThen (World.grownBy_alloc _ _ none) (fun q e => by cases e)
          clear d1 f1 gT3a hall hT3 hzn
          go_meet
          case rel => exact ⟨_, 1, 1, gz, (by first | exact hIz | (rw [if_pos rfl]; exact hIz) | (rw [if_pos trivial]; exact hIz)), Nat.le_refl _, by decide, Lib.hid (fun h => absurd rfl h), hGz⟩
        · have hi0' : ((i : Int) == 0) = false := beq_eq_false_iff_ne.2 (by omega)
          have HI0 := Lib.hid hi0
          have hCn : inK.C (wa.heap.size < ·) wb none 0 (if i = 0 then [firstB s] else []) := by rw [if_neg hi0]; exact RK.C.nil _ _ _ _
          clear hi0
          go_wp2
          go_meet
          case rel => exact ⟨none, 0, 0, gTb, hCn, Nat.le_refl _, by decide, Lib.hid (fun _ => ⟨rfl, rfl, rfl⟩), World.grownBy.refl _ _⟩
      case rest =>
        obtain ⟨A0, n0, c0, gTd, hI0, hn0, hc0, H00, hGd⟩ := hcut
        have hsc := hGd.size
        have gPc := heap_grown hGd gPb (fun e => by have := Option.some.inj e; omega)
        have p0 := blk_cell gPc (i := 0) (v := .slice Af nf cf) rfl
        have hnfI : (nf : Int) ≤ 6 := by omega
        have hngI : (ng : Int) ≤ 6 := by omega
        clear gTb
        go_upto_block 2 with fail
        refine bl_ins wc i na ca nf cf wa.heap.size Aa Af hAle.1 hAle.2 (by omega) all (hACr.move (fun q hq hl => hGd.block q hl (fun e => by have := Option.some.inj e; have : q < wa.heap.size := hq; omega))) frm hnf (hfCr.move (fun q hq hl => hGd.block q hl (fun e => by have := Option.some.inj e; have : q < wa.heap.size := hq; omega))) 1 y (.slice none 0 0) s A0 n0 c0 hn0 hc0 hI0 (fun h => H00.out h) gTd _ ?_
        intro x_0 x_1 x_2 x_3 x_4 x_5 x_6 x_7 x_8 x_9 x_10 x_11 x_12 x_13 x_14 x_15 x_16 x_17 x_18 x_19 x_20 x_21 x_22 x_23 x_24 x_25 x_26 A1 n1 c1 wd hG1 gT1 hI1 hn1 hc1
        have gP1 := heap_grown hG1 gPc (fun e => by have := Option.some.inj e; omega)
        have hGd1 := hGd.andThen hG1 (fun q e => Or.inr e)
        have hs1' := hGd1.size
        have p1 := blk_cell gP1 (i := 1) (v := .slice Ag ng cg) rfl
        clear p0 hI0 gTd gPc hGd hsc
        go_upto_block 4 with fail
        refine bl_outs wd ng cg wa.heap.size Ag (by omega) gs hng (hgCr.move (fun q hq hl => hGd1.block q hl (fun e => by have := Option.some.inj e; have : q < wa.heap.size := hq; omega))) 1 y (.slice A1 n1 c1) gT1 _ ?_
        intro y_0 y_1 y_2 y_3 y_4 y_5 y_6 y_7 y_8 y_9 y_10 y_11 y_12 y_13 y_14 y_15 y_16 y_17 A2 c2 we hG2 gT2 hO2
        have hGe := hGd1.andThen hG2 (fun q e => Or.inr e)
        have hse := hGe.size
        have hsd := hG2.size
        have hO2l := hO2.le_
        have hI2 : inK.C (fun q => wa.heap.size < q ∧ q < we.heap.size) we A1 n1 (if i = 0 then [firstB s] else insB all frm) := RK.C.restr inK_restr (hI1.move (fun q hq hl => hG2.block q hl (fun e => by have := Option.some.inj e; have : wa.heap.size < q := hq; omega)))
        have hO2' : outK.C (fun q => wa.heap.size < q ∧ q < we.heap.size) we A2 ng (gs.map ouB) := RK.C.restr (fun _ _ h => h) (RK.Own.C_ (S' := (wa.heap.size < ·)) hO2 (fun _ h => h.elim) (fun q e => by have := (RK.Own.lt hO2 q e).1; show wa.heap.size < q; omega))
        obtain ⟨t, ht⟩ : ∃ t, txB s i (frm, gs, lock) all = t := ⟨_, rfl⟩
        have htv : t.ver = 1 ∧ t.lock = y := by rw [← ht]; exact ⟨rfl, HY.out⟩
        have hti : t.ins = (if i = 0 then [firstB s] else insB all frm) := by rw [← ht]; rfl
        have hto : t.outs = gs.map ouB := by rw [← ht]; rfl
        have hKt : txK.K (fun q => wa.heap.size < q ∧ q < we.heap.size) we t [.int .i32 1, .slice A1 n1 c1, .slice A2 ng c2, .int .u32 y] := by
          refine ⟨A1, n1, c1, A2, ng, c2, by rw [htv.1, htv.2], by rw [htv.1]; decide, by rw [htv.2]; omega, hn1, hc1, hO2l.1, hO2l.2, ?_, ?_⟩
          · rw [hti]; exact hI2
          · rw [hto]; exact hO2'
        have hsm : SmallT t := by rw [← ht]; exact small_txB s i _ all hq1 hq2
        have hOkt := txK_okT hKt
        have HLY := Lib.hid (And.intro (small_layB hOkt hsm) (layF_bytes hOkt false))
        have HTO : Hid (t.outs.length = ng) := Lib.hid (by rw [hto, List.length_map]; exact hng'.out)
        have HT := Lib.hid ht
        have hj4 := info_tx4 (.int .i32 1) (.slice A1 n1 c1) (.slice A2 ng c2) (.int .u32 y)
        have gBe := heap_grown hGe gBb (fun e => by have := Option.some.inj e; omega)
        have tS := blk_cell gBe (i := 68) (v := .slice At i ct) (by rw [List.getElem?_toArray]; exact blkCells_at hok0 At i ct)
        have hTe : txK.Own (fun q => w1.heap.size ≤ q ∧ q < we.heap.size ∧ some q ≠ (Value.slice At i ct).ownBlock ∧ some q ≠ (Value.slice Aa na ca).ownBlock) we w1.heap.size 54 (.slice At i ct) i ts :=
          (hTxr.kept hGe (Or.inr (fun e => by have := hTlt.out _ e; omega)) (fun q hq e => by have := Option.some.inj e; have := hq.2.1; omega)).mono_ (fun q h => ⟨h.1, by have := h.2.1; omega, h.2.2⟩)
        have hKe : txK.K (fun q => w1.heap.size ≤ q ∧ q < we.heap.size ∧ some q ≠ (Value.slice At i ct).ownBlock ∧ some q ≠ (Value.slice Aa na ca).ownBlock) we t [.int .i32 1, .slice A1 n1 c1, .slice A2 ng c2, .int .u32 y] := txK.mono (fun q h => ⟨by have := h.1; omega, h.2, fun e => by have := hTlt.out _ e.symm; have := h.1; omega, fun e => by have := hAlt.out _ e.symm; have := h.1; omega⟩) hKt
        have hAe : PtOwn we w1.heap.size (.slice Aa na ca) na all := hAb.kept hGe (Or.inr (fun e => by have := hAlt.out _ e; omega)) (fun q hq => hq.elim)
        have hbe : Below w0.heap.size w0 we := hbb0.grown hGe hbb0.size (fun q e => by have := Option.some.inj e; omega)
        have hTle := hTe.le_
        clear ht htv hti hto hI2 hO2' hI1 hO2 hG1 hG2 hGd1 hGe hTxr hAb hbb0 gT1 gP1 p1 gBb gPb hsm hOkt hfCr hgCr hACr
        have hq1' := RK.Own.alloc hTe (.cells ([.int .i32 1, .slice A1 n1 c1, .slice A2 ng c2, .int .u32 y]).toArray 54)
        have hq2' := RK.Src.one (heap_alloc_new we (.cells ([.int .i32 1, .slice A1 n1 c1, .slice A2 ng c2, .int .u32 y]).toArray 54)) (RK.K_below hKe ((Below.refl _ _).alloc (Nat.le_refl _) _))
        have hq3' : w1.heap.size ≤ (we.alloc (.cells ([.int .i32 1, .slice A1 n1 c1, .slice A2 ng c2, .int .u32 y]).toArray 54)).heap.size := by simp; omega
        have gBa := blk_alloc gBe (.cells ([.int .i32 1, .slice A1 n1 c1, .slice A2 ng c2, .int .u32 y]).toArray 54)
        have gTa := blk_alloc gT2 (.cells ([.int .i32 1, .slice A1 n1 c1, .slice A2 ng c2, .int .u32 y]).toArray 54)
        have hAa := RK.Own.alloc hAe (.cells ([.int .i32 1, .slice A1 n1 c1, .slice A2 ng c2, .int .u32 y]).toArray 54)
        have hWa : Below we.heap.size we (we.alloc (.cells ([.int .i32 1, .slice A1 n1 c1, .slice A2 ng c2, .int .u32 y]).toArray 54)) := (Below.refl _ _).alloc (Nat.le_refl _) _
        have hTw := Lib.hid (fun q e => (RK.Own.lt hTe q e).1 : ∀ q, (Value.slice At i ct).ownBlock = some q → w1.heap.size ≤ q)
        have hap := Lib.hid (fun (w6 : World) (hG : (we.alloc (.cells ([.int .i32 1, .slice A1 n1 c1, .slice A2 ng c2, .int .u32 y]).toArray 54)).grownBy w6 (Value.slice At i ct).ownBlock) => (by
          obtain ⟨_, cells, h2, _⟩ := hq1'
          exact hAa.kept hG (RK.Own.ne hAa h2 (by decide)).1 (fun q hq => hq.elim) : PtOwn w6 w1.heap.size (.slice Aa na ca) na all))
        go_upto_region 21 with (first
          | ((with_reducible refine wpList_at 97 ?_); refine wpList_load_row rfl 54 (.tmp 12) rfl wa.heap.size rfl 54 _ _ _ gT2 hUT rfl hj4 ?_)
          | ((with_reducible refine wpList_at 98 ?_); refine wpList_build1 rfl 47 54 _ rfl Tryd.underlying47 _ 4 64 zinfo_tx (by decide) (by decide) [.int .i32 1, .slice A1 n1 c1, .slice A2 ng c2, .int .u32 y] rfl rfl rfl ?_)
          | ((with_reducible refine wpList_at 99 ?_); refine RK.wpList_appK' txK _ rfl (.tmp 96) (.tmp 98) 47 rfl _ w1.heap.size 54 _ 64 Tryd.underlying47 zinfo_tx rfl (by decide) (.slice At i ct) i ts rfl hq1' (fun q h => h.2.2.1) _ 1 1 [t] rfl hq2' (i + 1) (ts ++ [t]) rfl rfl (by unfold maxLen; omega) (by omega) hq3' ?_
             intro A9 c9 w9 hO9 hG9 hx9
             have gB9 := heap_grown hG9 gBa (fun e => by have := hTw.out _ e.symm; omega)
             have gT9 := heap_grown hG9 gTa (fun e => by have := hTlt.out _ e.symm; omega)
             have d9 := blk_cell gB9 (i := 68) (v := .slice At i ct) (by rw [List.getElem?_toArray]; exact blkCells_at hok0 At i ct)
             have f9 := blk_frozen gB9 68
             have HG9 := Lib.hid hG9
             have HX9 := Lib.hid hx9
             have HO9 := Lib.hid hO9
             clear hq1' hq2' hq3' gBa gTa hAa tS hG9 hx9 gT2 gBe hTe hO9
             refine wp_stopper ?_))
        refine Lib.hid ?_
        go_upto_region 21 with fail
        have gBz := blk_set gB9 68 (.slice A9 (i + 1) c9)
        rw [blkCells_set hok0] at gBz
        refine wp_gen (q := fun wi => Turned w9 w0.heap.size wi ∧ wi.heap[w0.heap.size]? = some (.cells (blkCells (⟨0, zeros32, zeros32, 0, 0, s⟩ : Hd) A9 (i + 1) c9).toArray 49)) ⟨turned_setCell _ _ _ _, gBz⟩ (fun wf hw => ?_)
        obtain ⟨hTB, gBf⟩ := hw
        have gTf := hTB.keep gT9 (by omega)
        have hs9 := HG9.out.size
        have hsA := hWa.size
        have hO9l := HO9.out.lt
        have hTf : txK.Own (fun q => w1.heap.size ≤ q ∧ q < we.heap.size ∧ some q ≠ (Value.slice A9 (i + 1) c9).ownBlock ∧ some q ≠ (Value.slice Aa na ca).ownBlock) wf w1.heap.size 54 (.slice A9 (i + 1) c9) (i + 1) (ts ++ [t]) :=
          (HO9.out.kept hTB.grown (Or.inr (fun e => by have := (hO9l _ e).1; omega)) (fun q hq e => by have := Option.some.inj e; have := hq.1; omega)).mono_ (fun q hq => ⟨hq.1, hq.2.1, fun e => by
            rcases HX9.out with hx | hx
            · exact hq.2.2.1 (e.trans hx)
            · have := Option.some.inj (e.trans hx); have := hq.2.1; omega, hq.2.2.2⟩)
        have hAf : PtOwn wf w1.heap.size (.slice Aa na ca) na all := (hap.out w9 HG9.out).kept hTB.grown (Or.inr (fun e => by have := (RK.Own.lt hAe _ e).1; omega)) (fun q hq => hq.elim)
        have hbf : Below w0.heap.size w0 wf := hTB.below ((below_then hbe hbe.size hWa).grown HG9.out (below_then hbe hbe.size hWa).size (fun q e => by have := hTw.out _ e; omega)) (Nat.le_refl _)
        have hKf : txK.K (fun q => wa.heap.size < q ∧ q < we.heap.size) wf t [.int .i32 1, .slice A1 n1 c1, .slice A2 ng c2, .int .u32 y] := txK.move (fun q hq hl => (hTB.block q (by have := hq.1; omega)).trans (HG9.out.block q (by have := hq.2; omega) (fun e => by have := hTlt.out _ e.symm; have := hq.1; omega))) (RK.K_below hKt hWa)
        have hbwf := below_then hb0 hb0.size hbf
        have hTf2 := hT.below hbwf
        have hszf : we.heap.size ≤ wf.heap.size := by rw [hTB.size]; omega
        clear gBz hTB gB9 gT9 d9 f9 hKt hKe hap hAe hbe hWa hs9 hO9l
        go_wp2_with (first | ((with_reducible refine wpList_at 101 ?_); refine wpList_load_row rfl 54 (.tmp 12) rfl wa.heap.size rfl 54 _ _ _ gTf hUT rfl hj4 ?_))
        refine (txid_calls wf hTf2 _ t [.int .i32 1, .slice A1 n1 c1, .slice A2 ng c2, .int .u32 y] hKf HLY.out.1 HLY.out.2).mono ?_
        rintro e wg ⟨rfl, hbg⟩
        have hdid : Dig (dblF (layF t false)) := ⟨dblF_length _, dblF_bytes _⟩
        obtain ⟨di, hdi⟩ : ∃ d, dblF (layF t false) = d := ⟨_, rfl⟩
        rw [hdi] at hdid ⊢
        have HDI : Hid (idF t = di) := Lib.hid hdi
        have gTg := heap_below hbg gTf
        have gBg := heap_below hbg gBf
        have hTg := hTf.below hbg
        have hAg := hAf.below hbg
        have hbg0 := below_then hbf hbf.size hbg
        have hsg := hbg.size
        clear hdi gTf gBf hTf hAf hbf hKf hbwf hTf2 hbg
        go_upto_region 22 with (first
          | ((with_reducible refine wpList_atS 17 ?_); refine wpList_store_any rfl 24 (.tmp 17) (.tmp 102) rfl wg.heap.size (nums .u8 di).toArray rfl rfl 24 (nums .u8 zeros32).toArray (heap_alloc_new _ _) (info_h di hdid.1) (size_h di hdid.1) (nums_all _ _) ?_; intro wh gIh hth))
        have hbh : Below wg.heap.size wg wh := hth.below ((Below.refl _ _).alloc (Nat.le_refl _) _) (Nat.le_refl _)
        have gTh := heap_below hbh gTg
        have gBh := heap_below hbh gBg
        have hTh := hTg.below hbh
        have hAh := hAg.below hbh
        have hbh0 := below_then hbg0 hbg0.size hbh
        have hsh := hbh.size
        have t2 := blk_cell gTh (i := 2) (v := .slice A2 ng c2) rfl
        clear gTg gBg hTg hAg hbg0 hth hbh
        go_upto_block 6 with fail
        refine bl_pts wh na ca ng wg.heap.size w1.heap.size Aa all (by omega) (by omega) (by omega) hAh di hdid gIh (fun e => by have := hAlt.out _ e.symm; omega) _ ?_
        intro z_0 z_1 z_2 z_3 z_4 z_5 z_6 z_7 z_8 z_9 z_10 z_11 A7 c7 wi hG7 hO7 hOW7
        have gBi := heap_grown hG7 gBh (fun e => by have := (RK.Own.lt hAh _ e.symm).1; omega)
        have hTi : txK.Own (TxS w1.heap.size (.slice A9 (i + 1) c9) (.slice A7 (na + ng) c7)) wi w1.heap.size 54 (.slice A9 (i + 1) c9) (i + 1) (ts ++ [t]) := by
          obtain ⟨_, cells, h2, _⟩ := hAh
          refine (hTh.kept hG7 (RK.Own.ne hTh h2 (by decide)).1 (fun q hq => hq.2.2.2)).mono_ (fun q hq => ⟨hq.1, hq.2.2.1, fun e => ?_⟩)
          rcases hOW7 with h | ⟨q', h, hle⟩
          · exact hq.2.2.2 (e.trans h)
          · have := Option.some.inj (e.trans h); have := hq.2.1; omega
        have hbi := hbh0.grown hG7 hbh0.size (fun q e => by have := (RK.Own.lt hAh _ e).1; omega)
        have hsi := hG7.size
        have HB' : Hid (bldT s 0 pays outs = ((ts ++ [t]) ++ (bldT s (i + 1) (pays.drop (i + 1)) (all ++ ptsN di ng)).1, (bldT s (i + 1) (pays.drop (i + 1)) (all ++ ptsN di ng)).2)) := Lib.hid (by
          have e : ptsB t = ptsN di ng := by unfold ptsB ptsN; rw [HTO.out, HDI.out]
          rw [HB.out, bldT_step HQ.out, HT.out, e, List.append_assoc]
          rfl)
        clear gBh hTh hAh hbh0 hG7 hOW7 t2 gIh gTh
        go_wp2
        go_roundw
        case rel => exact ⟨i + 1, A9, c9, A7, na + ng, c7, ts ++ [t], all ++ ptsN di ng, by omega, by go_num, rfl, by omega, HB', gBi, hTi, hO7, hbi, by omega⟩
        case measure => simp [intOf]; omega
    · have hlt' : ¬ (i : Int) < (np : Int) := by omega
      have hin : pays.drop i = [] := List.drop_eq_nil_of_le (by rw [hln.out]; omega)
      have HBE : Hid (bldT s 0 pays outs = (ts, all)) := Lib.hid (by rw [HB.out, hin]; simp [bldT])
      have hni : i = np := by omega
      have hTl := hTx.lt
      have hTle := hTx.le_
      have hTlen := hTx.len
      have hAlen := hA.len
      have hTC : txK.C (fun q => w1.heap.size ≤ q) wr At i ts := hTx.C_ (fun q h => h.1) (fun q e => (hTl q e).1)
      have hOk : ∀ t ∈ ts, t.Ok := fun t ht => by
        obtain ⟨j, hj, rfl⟩ := List.mem_iff_getElem.1 ht
        obtain ⟨b, o, hA', _, _, hc⟩ := hTC.2 (by have := hTC.1; omega)
        obtain ⟨cs, hK, _⟩ := hc j _ (List.getElem?_eq_getElem hj)
        exact txK_okT hK
      have hSm : ∀ t ∈ ts, SmallT t := fun t ht => bldT_small s pays 0 outs HPO.out.2 t (by rw [HBE.out]; exact ht)
      have HLB := Lib.hid (fun t ht => ⟨small_layB (hOk t ht) (hSm t ht), layF_bytes (hOk t ht) false⟩ : ∀ t ∈ ts, (layF t false).length ≤ 9000000000 ∧ Bytes (layF t false))
      have hbw := below_then hb0 hb0.size hb
      have gRr := heap_below hb gR0
      have hTr := hT.below hbw
      have hiB := info_blkA hok0 At i ct
      have HIL : Hid ((idsF ts).length = i) := Lib.hid (by unfold idsF; rw [List.length_map]; exact hTlen)
      have HAL := Lib.hid hAlen
      have HTL := Lib.hid hTlen
      clear hTx hOk hSm hTlen hAlen HB hni hin hTl
      go_wp2_with (first | ((with_reducible refine wpList_at 118 ?_); refine wpList_load_row rfl 49 (.tmp 8) rfl w0.heap.size rfl 49 _ _ _ gB hUB rfl hiB ?_))
      refine (ids_calls wr hTr _ (⟨0, zeros32, zeros32, 0, 0, s⟩ : Hd) hok0 At i ct ts hTle.1 hTle.2 (by omega) hTC HLB.out).mono ?_
      rintro e wa ⟨A8, c8, rfl, hO8, hba⟩
      have gBa := heap_below hba gB
      have gRa := heap_below hba gRr
      have hTa := hTr.below hba
      have hTCa := RK.C.below hTC hba
      have hAa := hA.below hba
      have hba0 := below_then hb hb.size hba
      have hH8 := HOwn.C hO8
      have hle8 := hO8.le_
      clear gB gRr hTr hTC hA hb hba hO8
      go_wp2_with fail
      refine (blkroot_calls wa hTa A8 i c8 (idsF ts) hle8.1 (by omega) hH8).mono ?_
      rintro e wb ⟨rfl, hbb⟩
      have gBb := heap_below hbb gBa
      have gRb := heap_below hbb gRa
      have hTCb := RK.C.below hTCa hbb
      have hAb := hAa.below hbb
      have hbb0 := below_then hba0 hba0.size hbb
      have hrl : (rootF (idsF ts)).length = 32 := (rootF_dig _ _ (Nat.le_refl _) (idsF_digs ts)).1
      have hrd : Dig (rootF (idsF ts)) := rootF_dig _ _ (Nat.le_refl _) (idsF_digs ts)
      obtain ⟨rt, hrt⟩ : ∃ rt, rootF (idsF ts) = rt := ⟨_, rfl⟩
      rw [hrt] at hrl hrd ⊢
      have HRT := Lib.hid hrt
      have hokR : (⟨0, zeros32, rt, 0, 0, s⟩ : Hd).Ok := ⟨hok0.v0, hok0.v1, hok0.prev, hrd, hok0.t0, hok0.t1, hok0.b0, hok0.b1, hok0.n0, hok0.n1⟩
      have hiR := info_blkA hokR At i ct
      have hszB : 33 + (nums .u8 rt).toArray.size ≤ (blkCells (⟨0, zeros32, zeros32, 0, 0, s⟩ : Hd) At i ct).toArray.size := by rw [List.size_toArray, List.size_toArray, blkCells_length hok0, nums_length, hrl]; decide
      clear gBa gRa hTa hTCa hAa hba0 hH8 hbb hrt
      go_upto_region 29 with (first
        | ((with_reducible refine wpList_atS 122 ?_); refine wpList_store_in rfl 24 (.tmp 122) (.tmp 120) rfl w0.heap.size 33 (nums .u8 rt).toArray rfl rfl 49 (blkCells (⟨0, zeros32, zeros32, 0, 0, s⟩ : Hd) At i ct).toArray gBb hszB (info_h rt hrl) (nums_all _ _) ?_; intro wc gBc htc))
      rw [List.toList_toArray, blkCells_root (⟨0, zeros32, zeros32, 0, 0, s⟩ : Hd) rt rfl rfl hrl] at gBc
      have gRc := htc.keep gRb (by omega)
      have hTCc : txK.C (fun q => w1.heap.size ≤ q) wc At i ts := hTCb.move (fun q hq _ => htc.block q (by omega))
      have hAc : PtOwn wc w1.heap.size (.slice Aa na ca) na all := hAb.kept htc.grown (Or.inr (fun e => by have := (RK.Own.lt hAb _ e).1; omega)) (fun q hq => hq.elim)
      have hbc0 := htc.below hbb0 (Nat.le_refl _)
      have hbwc := below_then hb0 hb0.size hbc0
      clear gBb gRb hTCb hAb hbb0 htc
      go_wp2_with (first
        | ((with_reducible refine wpList_at 123 ?_); refine wpList_load_row rfl 49 (.tmp 8) rfl w0.heap.size rfl 49 _ _ _ gBc hUB rfl hiR ?_)
        | ((with_reducible refine wpList_atS 6 ?_); refine wpList_store_any rfl 49 (.tmp 6) (.tmp 123) rfl w.heap.size (blkCells ⟨0, zeros32, rt, 0, 0, s⟩ At i ct).toArray rfl rfl 49 (blkCells hd0 none 0 0).toArray gRc hiR (by rw [List.size_toArray, List.size_toArray, blkCells_length hokR, blkCells_length hd0_ok]) (blkCells_all _ At i ct) ?_; intro wE hE htE))
      refine bodyPost_ret (results_cell_tmp rfl _ _ w.heap.size 49 (blkCells ⟨0, zeros32, rt, 0, 0, s⟩ At i ct).toArray (0, 0) _ rfl hE hUB rfl hiR) rfl ?_
      rw [HBE.out]
      refine ⟨htE.below hbwc (Nat.le_refl _), At, ct, Aa, ca, ?_, ?_, hTle.2, ?_, ?_⟩
      · show Ending.returned _ = _
        simp only [bldH]
        rw [HTL.out, HAL.out, HRT.out]
        rfl
      · show ts.length ≤ ct
        rw [HTL.out]
        exact hTle.1
      · show txK.C _ wE At ts.length ts
        rw [HTL.out]
        exact (hTCc.move (fun q hq _ => htE.block q (by omega))).mono (fun q hq => by show w.heap.size ≤ q; omega)
      · show PtOwn wE w.heap.size (.slice Aa all.length ca) all.length all
        rw [HAL.out]
        exact (hAc.kept htE.grown (Or.inr (fun e => by have := (RK.Own.lt hAc _ e).1; omega)) (fun q hq => hq.elim)).base_ (by omega)
end Go.Proofs.YtclkgflficlmiaaDoor
end
