/- tailracelaw22.head: it returns true. -/
import Derived.Test.YtglckhjkbgokaaaQueI
set_option maxRecDepth 100000
set_option linter.unusedVariables false
namespace Go.Proofs.Ytglckhjkbgokaaa
open Go Go.RowKit
set_option maxHeartbeats 1000000 in
theorem qhead_calls (w : World) : Calls Try.prog 12 #[] w fun e w' => e = .returned (.bool true) ∧ Below w.heap.size w w' := by
  go_enter Try.func12, Try.ntmps12
  go_wp2_with fail
  refine (new_okI 2 _ (by decide) (by decide)).mono ?_
  rintro e w1 ⟨q, c, rfl, hq, hc, hQ, hb⟩
  have hs := hb.size
  go_wp2_with fail
  refine (put_room'I 1 hQ (by decide)).mono ?_
  rintro e w2 ⟨rfl, hQ2, hT2⟩
  go_wp2_with fail
  refine (put_room'I 2 hQ2 (by decide)).mono ?_
  rintro e w3 ⟨rfl, hQ3, hT3⟩
  go_wp2_with fail
  refine (put_full'I 3 hQ3 (by decide) (by decide)).mono ?_
  rintro e w4 ⟨rfl, hQ4, hT4⟩
  go_wp2_with fail
  refine (len'I hQ4).mono ?_
  rintro e w' ⟨rfl, rfl⟩
  go_wp2_with fail
  refine (put_closed'I 4 hQ4).mono ?_
  rintro e w' ⟨rfl, rfl⟩
  go_wp2_with fail
  refine (lost'I hQ4).mono ?_
  rintro e w' ⟨rfl, rfl⟩
  go_wp2
  go_ret
  exact ⟨rfl, ((hT2.trans hT3).trans hT4).below hb hs hq hc⟩
end Go.Proofs.Ytglckhjkbgokaaa
