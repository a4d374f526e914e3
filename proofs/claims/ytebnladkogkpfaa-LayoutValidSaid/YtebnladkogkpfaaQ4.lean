-- Written by a program of this session (wip/tools/drv.py) for this claim: what the Go functions do, as Lean functions, and the walks.
import Derived.Test.YtebnladkogkpfaaQ0
namespace Go.Proofs.Ytebnladkogkpfaa.Q
open Go.RowKit Go.Proofs.YtebnladkogkpfaaW.PrintWords Go.Proofs.YtebnladkogkpfaaW.PrintLast Go.Proofs.YtebnladkogkpfaaW.PrintMore
attribute [local go_sem] max2_int min2_int max_two min_two max_three min_three max_four min_four   -- for this text's walks alone
set_option linter.unusedVariables false
set_option linter.unusedSimpArgs false

/-! ### layout_numbers_data: function 46 -/
def layout_numbers_data.f (a0_0 : Int) (l0_1 : List (List Int)) (a0_2 : Int) (a0_3 : Int) (a0_4 : Int) (a0_5 : Int) (a0_6 : Int) (l0_7 : List (List Int)) (l0_8 : List (List Int)) (a0_9 : Int) (a0_10 : Int) : Option (Int) := some (wrap64 (a0_4 - 3))
set_option maxHeartbeats 8000000 in
set_option maxRecDepth 100000 in
theorem layout_numbers_data.calls (a0_0 : Int) (A0_1 : Option Addr) (c0_1 : Nat) (l0_1 : List (List Int)) (a0_2 : Int) (a0_3 : Int) (a0_4 : Int) (a0_5 : Int) (a0_6 : Int) (A0_7 : Option Addr) (c0_7 : Nat) (l0_7 : List (List Int)) (A0_8 : Option Addr) (c0_8 : Nat) (l0_8 : List (List Int)) (a0_9 : Int) (a0_10 : Int) (r : Int) (w : World) (hr0_1 : Kd.C (Kd.slice 3 (Kd.int .i64)) w A0_1 l0_1.length l0_1) (hc0_1 : l0_1.length ≤ c0_1) (hr0_7 : Kd.C (Kd.slice 3 (Kd.int .i64)) w A0_7 l0_7.length l0_7) (hc0_7 : l0_7.length ≤ c0_7) (hr0_8 : Kd.C (Kd.slice 3 (Kd.int .i64)) w A0_8 l0_8.length l0_8) (hc0_8 : l0_8.length ≤ c0_8) (h : layout_numbers_data.f a0_0 l0_1 a0_2 a0_3 a0_4 a0_5 a0_6 l0_7 l0_8 a0_9 a0_10 = some r) :
    Calls Try.prog 46 #[.agg #[.int .i64 a0_0, .slice A0_1 l0_1.length c0_1, .int .i64 a0_2, .int .i64 a0_3, .int .i64 a0_4, .int .i64 a0_5, .int .i64 a0_6, .slice A0_7 l0_7.length c0_7, .slice A0_8 l0_8.length c0_8, .int .i64 a0_9, .int .i64 a0_10]] w fun e w' => e = .returned (.int .i64 r) ∧ Below w.heap.size w w' := by
  have hu67 := Try.underlying67
  have HR0_1 := Aside0.mk hr0_1
  have HC0_1 := Aside0.mk hc0_1
  clear hr0_1 hc0_1
  have HR0_7 := Aside0.mk hr0_7
  have HC0_7 := Aside0.mk hc0_7
  clear hr0_7 hc0_7
  have HR0_8 := Aside0.mk hr0_8
  have HC0_8 := Aside0.mk hc0_8
  clear hr0_8 hc0_8
  have HB := Aside0.mk (Below.refl w.heap.size w)
  have H : (some (wrap64 (a0_4 - 3))) = some r := h
  clear h
  obtain rfl := Option.some.inj H
  go_enter Try.func46, Try.ntmps46
  go_wp2_with (first | ((with_reducible refine gate_dst (N := 1) rfl ?_); refine box_event ?hg (N := 1) ?hd (cs := #[.int .i64 a0_0, .slice A0_1 l0_1.length c0_1, .int .i64 a0_2, .int .i64 a0_3, .int .i64 a0_4, .int .i64 a0_5, .int .i64 a0_6, .slice A0_7 l0_7.length c0_7, .slice A0_8 l0_8.length c0_8, .int .i64 a0_9, .int .i64 a0_10]) (t := 67) ?hr ?_; (case hd => rfl); (case hg => rfl); (case hr => first | (go_simp; done) | (go_simp; rfl)); intro gb107 hg w2 hbox hb; have n0_ := Aside0.mk (below_step (by repeat (first | (with_reducible first | exact HB.out | apply below_alloc | apply pw_below_drewN | apply below_drew1) | exact HB.out)) hb); have n1_ := Aside0.mk (hbox); have n2_ := Aside0.mk ((by rw [hg]; exact (below_size (by repeat (first | (with_reducible first | exact HB.out | apply below_alloc | apply pw_below_drewN | apply below_drew1) | exact HB.out))) : w.heap.size ≤ gb107)); have n3_ := Aside0.mk ((by rw [hg]; exact (below_size (by repeat (first | (with_reducible first | exact HB.out | apply below_alloc | apply pw_below_drewN | apply below_drew1) | exact HB.out))) : w.heap.size ≤ gb107)); clear HB; have HB := n0_; have BK107 := n1_; have GW107 := n2_; have GE107 := n3_; clear n0_ n1_ n2_ n3_; clear hb hbox hg; have hcz3_0 : w2.cell? ⟨gb107, 0, none⟩ = some (.int .i64 a0_0) := (blk_cell BK107.out 0).trans rfl; have hcz3_1 : w2.cell? ⟨gb107, 1, none⟩ = some (.slice A0_1 l0_1.length c0_1) := (blk_cell BK107.out 1).trans rfl; have hcz3_2 : w2.cell? ⟨gb107, 2, none⟩ = some (.int .i64 a0_2) := (blk_cell BK107.out 2).trans rfl; have hcz3_3 : w2.cell? ⟨gb107, 3, none⟩ = some (.int .i64 a0_3) := (blk_cell BK107.out 3).trans rfl; have hcz3_4 : w2.cell? ⟨gb107, 4, none⟩ = some (.int .i64 a0_4) := (blk_cell BK107.out 4).trans rfl; have hcz3_5 : w2.cell? ⟨gb107, 5, none⟩ = some (.int .i64 a0_5) := (blk_cell BK107.out 5).trans rfl; have hcz3_6 : w2.cell? ⟨gb107, 6, none⟩ = some (.int .i64 a0_6) := (blk_cell BK107.out 6).trans rfl; have hcz3_7 : w2.cell? ⟨gb107, 7, none⟩ = some (.slice A0_7 l0_7.length c0_7) := (blk_cell BK107.out 7).trans rfl; have hcz3_8 : w2.cell? ⟨gb107, 8, none⟩ = some (.slice A0_8 l0_8.length c0_8) := (blk_cell BK107.out 8).trans rfl; have hcz3_9 : w2.cell? ⟨gb107, 9, none⟩ = some (.int .i64 a0_9) := (blk_cell BK107.out 9).trans rfl; have hcz3_10 : w2.cell? ⟨gb107, 10, none⟩ = some (.int .i64 a0_10) := (blk_cell BK107.out 10).trans rfl; have hfz3_0 := blk_frozen BK107.out 0; have hfz3_1 := blk_frozen BK107.out 1; have hfz3_2 := blk_frozen BK107.out 2; have hfz3_3 := blk_frozen BK107.out 3; have hfz3_4 := blk_frozen BK107.out 4; have hfz3_5 := blk_frozen BK107.out 5; have hfz3_6 := blk_frozen BK107.out 6; have hfz3_7 := blk_frozen BK107.out 7; have hfz3_8 := blk_frozen BK107.out 8; have hfz3_9 := blk_frozen BK107.out 9; have hfz3_10 := blk_frozen BK107.out 10))
  go_ret
  exact ⟨by first | rfl | (simp [errW_none, errW_some] <;> rfl) | (simp [*, errW_none, errW_some] <;> rfl), by repeat (first | (with_reducible first | exact HB.out | apply below_alloc | apply pw_below_drewN | apply below_drew1 | refine below_set ?_ GE107.out) | exact HB.out)⟩

end Go.Proofs.Ytebnladkogkpfaa.Q
