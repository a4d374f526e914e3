import Derived.Test.YtebnladkogkpfaaG15
import Derived.Test.YtebnladkogkpfaaQ13
import Derived.Test.YtebnladkogkpfaaQ14
/-! The walk of awake: the document's example holds. -/
namespace Go.Proofs.Ytebnladkogkpfaa.Q
open Go.RowKit Go.Proofs.YtebnladkogkpfaaW.PrintWords Go.Proofs.YtebnladkogkpfaaW.PrintLast Go.Proofs.YtebnladkogkpfaaW.PrintMore
set_option linter.unusedVariables false
set_option linter.unusedSimpArgs false

def C54 : List (List Int) := [[0, 1, 2, 3], [0, 1, 2, 4], [0, 1, 3, 4], [0, 2, 3, 4], [1, 2, 3, 4]]
theorem comp54 : tegularef07_Complete.f 60 5 4 = some (5, C54) := by decide +kernel
theorem home54a : layout_Home.f 5 C54 2 3 1 3 = some (4, 0, 0) := by decide +kernel
theorem home54b : layout_Home.f 5 C54 2 3 6 0 = some (1, 5, 0) := by decide +kernel
theorem home54c : layout_Home.f 5 C54 2 3 6 3 = some (0, 5, 0) := by decide +kernel
theorem at54 : layout_At.f 5 C54 2 3 4 4 = some (6, 2, 0) := by decide +kernel
theorem slots54 : layout_Slots.f 5 C54 2 3 = some 10 := by decide +kernel
theorem blocks54 : layout_Blocks.f 5 C54 2 3 = some 11 := by decide +kernel
set_option maxHeartbeats 8000000 in
set_option maxRecDepth 100000 in
theorem awake_true (w : World) : Calls Try.prog 13 #[] w fun e w' => e = .returned (.bool true) ∧ Below w.heap.size w w' := by
  have hu26 := Try.underlying26
  have hu28 := Try.underlying28
  have hu31 := Try.underlying31
  go_enter Try.func13, Try.ntmps13
  go_wp2_with fail
  refine (tegularef07_Complete.calls 60 5 4 5 C54 _ comp54).mono ?_
  rintro e w1 ⟨v1, rfl, hS, hb1⟩
  obtain ⟨A, c, rfl, hc, hC⟩ := Kd.S_reads hS
  have HC := Aside0.mk (show (5 : Nat) ≤ c from hc)
  have HB1 := Aside0.mk hb1
  have C1 : Aside0 (Kd.C (Kd.slice 3 (Kd.int .i64)) w1 A 5 C54) := ⟨hC⟩
  have e5 : C54.length = 5 := rfl
  rw [e5]
  have HL1 := Aside0.mk (blk_new w1 (.cells #[.int .i64 5, .slice A 5 c, .int .i64 2, .int .i64 3] 28))
  have C2 : Aside0 (Kd.C (Kd.slice 3 (Kd.int .i64)) (w1.alloc (.cells #[.int .i64 5, .slice A 5 c, .int .i64 2, .int .i64 3] 28)) A 5 C54) := ⟨Kd.C_alloc C1.out _⟩
  have HB2 := Aside0.mk (below_alloc HB1.out (.cells #[.int .i64 5, .slice A 5 c, .int .i64 2, .int .i64 3] 28))
  clear hS hb1 hc hC e5 C1
  go_wp2_with fail
  refine (layout_Home.calls 5 A c C54 2 3 1 3 4 0 0 _ C2.out HC.out home54a).mono ?_
  rintro e v0_ ⟨rfl, hb⟩
  have HL2 := Aside0.mk (blk_alloc (blk_below HL1.out hb) (.cells #[.int .i64 4, .int .i64 0] 31))
  have C3 := Aside0.mk (Kd.C_alloc (Kd.C_below C2.out hb) (.cells #[.int .i64 4, .int .i64 0] 31))
  have HB3 := Aside0.mk (below_alloc (below_step HB2.out hb) (.cells #[.int .i64 4, .int .i64 0] 31))
  have P0 := Aside0.mk (blk_new v0_ (.cells #[.int .i64 4, .int .i64 0] 31))
  clear hb C2 HL1 HB2
  have hl0 := (blk_cell HL2.out 0).trans (rfl : _ = some _)
  have hl1 := (blk_cell HL2.out 1).trans (rfl : _ = some _)
  have hl2 := (blk_cell HL2.out 2).trans (rfl : _ = some _)
  have hl3 := (blk_cell HL2.out 3).trans (rfl : _ = some _)
  simp at hl0 hl1 hl2 hl3
  go_wp2_with fail
  refine (layout_Home.calls 5 A c C54 2 3 6 0 1 5 0 _ C3.out HC.out home54b).mono ?_
  rintro e v1_ ⟨rfl, hb⟩
  clear hl0 hl1 hl2 hl3
  have HL3 := Aside0.mk (blk_alloc (blk_below HL2.out hb) (.cells #[.int .i64 1, .int .i64 5] 31))
  have C4 := Aside0.mk (Kd.C_alloc (Kd.C_below C3.out hb) (.cells #[.int .i64 1, .int .i64 5] 31))
  have HB4 := Aside0.mk (below_alloc (below_step HB3.out hb) (.cells #[.int .i64 1, .int .i64 5] 31))
  have P0_1 := Aside0.mk (blk_alloc (blk_below P0.out hb) (.cells #[.int .i64 1, .int .i64 5] 31))
  have P1 := Aside0.mk (blk_new v1_ (.cells #[.int .i64 1, .int .i64 5] 31))
  clear hb C3 HL2 HB3
  have hl0 := (blk_cell HL3.out 0).trans (rfl : _ = some _)
  have hl1 := (blk_cell HL3.out 1).trans (rfl : _ = some _)
  have hl2 := (blk_cell HL3.out 2).trans (rfl : _ = some _)
  have hl3 := (blk_cell HL3.out 3).trans (rfl : _ = some _)
  simp at hl0 hl1 hl2 hl3
  go_wp2_with fail
  refine (layout_Home.calls 5 A c C54 2 3 6 3 0 5 0 _ C4.out HC.out home54c).mono ?_
  rintro e v2_ ⟨rfl, hb⟩
  clear hl0 hl1 hl2 hl3
  have HL4 := Aside0.mk (blk_alloc (blk_below HL3.out hb) (.cells #[.int .i64 0, .int .i64 5] 31))
  have C5 := Aside0.mk (Kd.C_alloc (Kd.C_below C4.out hb) (.cells #[.int .i64 0, .int .i64 5] 31))
  have HB5 := Aside0.mk (below_alloc (below_step HB4.out hb) (.cells #[.int .i64 0, .int .i64 5] 31))
  have P0_1_2 := Aside0.mk (blk_alloc (blk_below P0_1.out hb) (.cells #[.int .i64 0, .int .i64 5] 31))
  have P1_2 := Aside0.mk (blk_alloc (blk_below P1.out hb) (.cells #[.int .i64 0, .int .i64 5] 31))
  have P2 := Aside0.mk (blk_new v2_ (.cells #[.int .i64 0, .int .i64 5] 31))
  clear hb C4 HL3 HB4
  have hl0 := (blk_cell HL4.out 0).trans (rfl : _ = some _)
  have hl1 := (blk_cell HL4.out 1).trans (rfl : _ = some _)
  have hl2 := (blk_cell HL4.out 2).trans (rfl : _ = some _)
  have hl3 := (blk_cell HL4.out 3).trans (rfl : _ = some _)
  simp at hl0 hl1 hl2 hl3
  go_wp2_with fail
  refine (layout_At.calls 5 A c C54 2 3 4 4 6 2 0 _ C5.out HC.out at54).mono ?_
  rintro e v3_ ⟨rfl, hb⟩
  clear hl0 hl1 hl2 hl3
  have HL5 := Aside0.mk (blk_below HL4.out hb)
  have C6 := Aside0.mk (Kd.C_below C5.out hb)
  have HB6 := Aside0.mk (below_step HB5.out hb)
  have P0_1_2_9 := Aside0.mk (blk_below P0_1_2.out hb)
  have P1_2_9 := Aside0.mk (blk_below P1_2.out hb)
  have P2_9 := Aside0.mk (blk_below P2.out hb)
  clear hb C5 HL4 HB5
  have hl0 := (blk_cell HL5.out 0).trans (rfl : _ = some _)
  have hl1 := (blk_cell HL5.out 1).trans (rfl : _ = some _)
  have hl2 := (blk_cell HL5.out 2).trans (rfl : _ = some _)
  have hl3 := (blk_cell HL5.out 3).trans (rfl : _ = some _)
  simp at hl0 hl1 hl2 hl3
  have hp00 := (blk_cell P0_1_2_9.out 0).trans (rfl : _ = some _)
  have hp01 := (blk_cell P0_1_2_9.out 1).trans (rfl : _ = some _)
  have hp10 := (blk_cell P1_2_9.out 0).trans (rfl : _ = some _)
  have hp11 := (blk_cell P1_2_9.out 1).trans (rfl : _ = some _)
  have hp20 := (blk_cell P2_9.out 0).trans (rfl : _ = some _)
  have hp21 := (blk_cell P2_9.out 1).trans (rfl : _ = some _)
  simp at hp00 hp01 hp10 hp11 hp20 hp21
  go_wp2_with fail
  refine (layout_Slots.calls 5 A c C54 2 3 10 _ C6.out HC.out slots54).mono ?_
  rintro e v4_ ⟨rfl, hb⟩
  clear hl0 hl1 hl2 hl3
  have HL6 := Aside0.mk (blk_below HL5.out hb)
  have C7 := Aside0.mk (Kd.C_below C6.out hb)
  have HB7 := Aside0.mk (below_step HB6.out hb)
  clear hb C6 HL5 HB6
  have hl0 := (blk_cell HL6.out 0).trans (rfl : _ = some _)
  have hl1 := (blk_cell HL6.out 1).trans (rfl : _ = some _)
  have hl2 := (blk_cell HL6.out 2).trans (rfl : _ = some _)
  have hl3 := (blk_cell HL6.out 3).trans (rfl : _ = some _)
  simp at hl0 hl1 hl2 hl3
  go_wp2_with fail
  refine (layout_Blocks.calls 5 A c C54 2 3 11 _ C7.out HC.out blocks54).mono ?_
  rintro e v5_ ⟨rfl, hb⟩
  have HB8 := Aside0.mk (below_step HB7.out hb)
  clear hb
  go_wp2
  go_ret
  exact ⟨rfl, HB8.out⟩
/-- What awake answers. -/
def tegulalaw21_awake.f : Option Bool := some true
theorem tegulalaw21_awake.calls (r : Bool) (w : World) (h : tegulalaw21_awake.f = some r) : Calls Try.prog 13 #[] w fun e w' => e = .returned (.bool r) ∧ Below w.heap.size w w' := by
  obtain rfl := Option.some.inj h
  exact awake_true w
end Go.Proofs.Ytebnladkogkpfaa.Q
