-- Written by a program of this session (wip/tools/drv.py) for this claim: what the Go functions do, as Lean functions, and the walks.
import Derived.Test.YtebnladkogkpfaaQ0
import Derived.Test.YtebnladkogkpfaaQ14
import Derived.Test.YtebnladkogkpfaaQ18
namespace Go.Proofs.Ytebnladkogkpfaa.Q
open Go.RowKit Go.Proofs.YtebnladkogkpfaaW.PrintWords Go.Proofs.YtebnladkogkpfaaW.PrintLast Go.Proofs.YtebnladkogkpfaaW.PrintMore
attribute [local go_sem] max2_int min2_int max_two min_two max_three min_three max_four min_four   -- for this text's walks alone
set_option linter.unusedVariables false
set_option linter.unusedSimpArgs false

/-! ### tegularef21_Small: function 14 -/
def tegularef21_Small.j0 : Nat → Int → Int → Bool → Int → Option (Int × (List (List Int)) × Int × Int)
  | 0, _, _, _, _ => none
  | k + 1, x4, x8, x9, x199000 => if x9 = true then ((tegularef07_Complete.f k 5 4).bind fun bt199 => (some (bt199.1, bt199.2, wrap64 (1 + (Int.tmod (wrap64 (Int.tdiv x4 16)) 5)), Int.tmod (wrap64 (Int.tdiv x4 80)) 8))) else (if x8 = 3 then ((tegularef07_Complete.f k 6 4).bind fun bt203 => (some (bt203.1, bt203.2, wrap64 (1 + (Int.tmod (wrap64 (Int.tdiv x4 16)) 5)), Int.tmod (wrap64 (Int.tdiv x4 80)) 8))) else (if x8 = 4 then ((tegularef07_Complete.f k 6 5).bind fun bt207 => (some (bt207.1, bt207.2, wrap64 (1 + (Int.tmod (wrap64 (Int.tdiv x4 16)) 5)), Int.tmod (wrap64 (Int.tdiv x4 80)) 8))) else (if x8 = 5 then ((tegularef07_Complete.f k (wrap64 (4 + (Int.tmod (wrap64 (Int.tdiv x4 8)) 2))) (wrap64 (4 + (Int.tmod (wrap64 (Int.tdiv x4 8)) 2)))).bind fun bt211 => (some (bt211.1, bt211.2, wrap64 (1 + (Int.tmod (wrap64 (Int.tdiv x4 16)) 5)), Int.tmod (wrap64 (Int.tdiv x4 80)) 8))) else (if x8 = 6 then ((tegularef06_Projective.f 3).bind fun bt215 => (some (bt215.1, bt215.2, wrap64 (1 + (Int.tmod (wrap64 (Int.tdiv x4 16)) 5)), Int.tmod (wrap64 (Int.tdiv x4 80)) 8))) else (if x8 = 7 then ((tegularef07_Complete.f k 7 5).bind fun bt219 => (some (bt219.1, bt219.2, wrap64 (1 + (Int.tmod (wrap64 (Int.tdiv x4 16)) 5)), Int.tmod (wrap64 (Int.tdiv x4 80)) 8))) else (some (x199000, ([] : List (List Int)), wrap64 (1 + (Int.tmod (wrap64 (Int.tdiv x4 16)) 5)), Int.tmod (wrap64 (Int.tdiv x4 80)) 8)))))))
def tegularef21_Small.f (k : Nat) (a0 : Int) : Option (Int × (List (List Int)) × Int × Int) := if (Int.tmod (wrap64 (a0)) 8) = 0 then (tegularef21_Small.j0 k (wrap64 (a0)) (Int.tmod (wrap64 (a0)) 8) ((Int.tmod (wrap64 (a0)) 8) == 0) 0) else (if (Int.tmod (wrap64 (a0)) 8) = 1 then (tegularef21_Small.j0 k (wrap64 (a0)) (Int.tmod (wrap64 (a0)) 8) ((Int.tmod (wrap64 (a0)) 8) == 1) 0) else (tegularef21_Small.j0 k (wrap64 (a0)) (Int.tmod (wrap64 (a0)) 8) ((Int.tmod (wrap64 (a0)) 8) == 2) 0))
theorem tegularef21_Small.mono_l : ∀ k, (∀ y0 y1 y2 y3, LeO (tegularef21_Small.j0 k y0 y1 y2 y3) (tegularef21_Small.j0 (k + 1) y0 y1 y2 y3))
  | 0 => fun _ _ _ _ r h => by simp [tegularef21_Small.j0] at h
  | k + 1 => by
    have ih0 := tegularef21_Small.mono_l k
    · intro y0 y1 y2 y3
      unfold tegularef21_Small.j0
      repeat' first
      | (with_reducible exact ih0 _ _ _ _)
      | (with_reducible exact tegularef07_Complete.mono _ _ _)
      | (with_reducible exact LeO.refl _)
      | (with_reducible exact LeO.none _)
      | (with_reducible refine LeO.ite ?_ ?_)
      | (with_reducible refine LeO.bind ?_ (fun _ => ?_))
      | exact ih0 _ _ _ _
      | exact tegularef07_Complete.mono _ _ _
      | exact LeO.none _
      | refine LeO.ite ?_ ?_
      | refine LeO.bind ?_ (fun _ => ?_)
theorem tegularef21_Small.mono : ∀ a0 k, LeO (tegularef21_Small.f k a0) (tegularef21_Small.f (k + 1) a0) := by
  intro a0 k
  have ih0 := tegularef21_Small.mono_l k
  unfold tegularef21_Small.f
  repeat' first
      | (with_reducible exact ih0 _ _ _ _)
      | (with_reducible exact tegularef07_Complete.mono _ _ _)
      | (with_reducible exact LeO.refl _)
      | (with_reducible exact LeO.none _)
      | (with_reducible refine LeO.ite ?_ ?_)
      | (with_reducible refine LeO.bind ?_ (fun _ => ?_))
      | exact ih0 _ _ _ _
      | exact tegularef07_Complete.mono _ _ _
      | exact LeO.none _
      | refine LeO.ite ?_ ?_
      | refine LeO.bind ?_ (fun _ => ?_)
set_option maxHeartbeats 8000000 in
set_option maxRecDepth 100000 in
theorem tegularef21_Small.calls (k : Nat) (a0 : Int) (r1 : Int) (r2 : List (List Int)) (r3 : Int) (r4 : Int) (w : World) (h : tegularef21_Small.f k a0 = some (r1, r2, r3, r4)) :
    Calls Try.prog 14 #[.int .u16 a0] w fun e w' => ∃ v1_ : Value, e = .returned (.agg #[.int .i64 r1, v1_, .int .i64 r3, .int .i64 r4]) ∧ Kd.S (Kd.slice 3 (Kd.int .i64)) 56 w' w.heap.size (fun _ => True) v1_ r2 ∧ Below w.heap.size w w' := by
  have hu28 := Try.underlying28
  have hu26 := Try.underlying26
  have HB := Aside0.mk (Below.refl w.heap.size w)
  have H : (if (Int.tmod (wrap64 (a0)) 8) = 0 then (tegularef21_Small.j0 k (wrap64 (a0)) (Int.tmod (wrap64 (a0)) 8) ((Int.tmod (wrap64 (a0)) 8) == 0) 0) else (if (Int.tmod (wrap64 (a0)) 8) = 1 then (tegularef21_Small.j0 k (wrap64 (a0)) (Int.tmod (wrap64 (a0)) 8) ((Int.tmod (wrap64 (a0)) 8) == 1) 0) else (tegularef21_Small.j0 k (wrap64 (a0)) (Int.tmod (wrap64 (a0)) 8) ((Int.tmod (wrap64 (a0)) 8) == 2) 0))) = some (r1, r2, r3, r4) := h
  clear h
  have HC2 := Aside0.mk H
  clear H
  go_enter Try.func14, Try.ntmps14
  go_upto_if 9 with (first | ((with_reducible refine gate_dst (N := 2) rfl ?_); refine box_event ?hg (N := 2) ?hd (cs := #[.int .i64 0, .slice none 0 0, .int .i64 0, .int .i64 0]) (t := 28) ?hr ?_; (case hd => rfl); (case hg => rfl); (case hr => first | (go_simp; done) | (go_simp; rfl)); intro gb197 hg w3 hbox hb; have n0_ := Aside0.mk (below_step (by repeat (first | (with_reducible first | exact HB.out | apply below_alloc | apply pw_below_drewN | apply below_drew1) | exact HB.out)) hb); have n1_ := Aside0.mk (hbox); have n2_ := Aside0.mk ((by rw [hg]; exact (below_size (by repeat (first | (with_reducible first | exact HB.out | apply below_alloc | apply pw_below_drewN | apply below_drew1) | exact HB.out))) : w.heap.size ≤ gb197)); have n3_ := Aside0.mk ((by rw [hg]; exact (below_size (by repeat (first | (with_reducible first | exact HB.out | apply below_alloc | apply pw_below_drewN | apply below_drew1) | exact HB.out))) : w.heap.size ≤ gb197)); clear HB; have HB := n0_; have BK197 := n1_; have GW197 := n2_; have GE197 := n3_; clear n0_ n1_ n2_ n3_; clear hb hbox hg) | ((with_reducible refine gate_dst (N := 3) rfl ?_); refine box_event ?hg (N := 3) ?hd (cs := #[.int .i64 0, .slice none 0 0]) (t := 26) ?hr ?_; (case hd => rfl); (case hg => rfl); (case hr => first | (go_simp; done) | (go_simp; rfl)); intro gb198 hg w4 hbox hb; have n0_ := Aside0.mk (blk_below (g := gb197) (o := .cells #[.int .i64 0, .slice none 0 0, .int .i64 0, .int .i64 0] 28 (0, 0)) (by (with_reducible repeat (first | refine blk_drewN ?_ _ | refine blk_drew ?_ | refine blk_alloc ?_ _)); exact BK197.out) hb); have n1_ := Aside0.mk (below_step (by repeat (first | (with_reducible first | exact HB.out | apply below_alloc | apply pw_below_drewN | apply below_drew1 | refine below_set ?_ GE197.out) | exact HB.out)) hb); have n2_ := Aside0.mk (hbox); have n3_ := Aside0.mk ((by rw [hg]; exact (below_size (by repeat (first | (with_reducible first | exact HB.out | apply below_alloc | apply pw_below_drewN | apply below_drew1 | refine below_set ?_ GE197.out) | exact HB.out))) : w.heap.size ≤ gb198)); have n4_ := Aside0.mk ((by rw [hg]; exact (below_size (by repeat (first | (with_reducible first | exact HB.out | apply below_alloc | apply pw_below_drewN | apply below_drew1 | refine below_set ?_ GE197.out) | exact HB.out))) : w.heap.size ≤ gb198)); have n5_ := Aside0.mk ((by rw [hg]; exact Nat.ne_of_lt (blk_lt (g := gb197) (o := .cells #[.int .i64 0, .slice none 0 0, .int .i64 0, .int .i64 0] 28 (0, 0)) (by (with_reducible repeat (first | refine blk_drewN ?_ _ | refine blk_drew ?_ | refine blk_alloc ?_ _)); exact BK197.out)) : gb197 ≠ gb198)); have n6_ := Aside0.mk ((by rw [hg]; exact Nat.ne_of_gt (blk_lt (g := gb197) (o := .cells #[.int .i64 0, .slice none 0 0, .int .i64 0, .int .i64 0] 28 (0, 0)) (by (with_reducible repeat (first | refine blk_drewN ?_ _ | refine blk_drew ?_ | refine blk_alloc ?_ _)); exact BK197.out)) : gb198 ≠ gb197)); clear BK197; clear HB; have BK197 := n0_; have HB := n1_; have BK198 := n2_; have GW198 := n3_; have GE198 := n4_; have NB197_198 := n5_; have NB198_197 := n6_; clear n0_ n1_ n2_ n3_ n4_ n5_ n6_; clear hb hbox hg))
  (try simp only [Act.put, List.setIfInBounds_toArray, List.set_cons_zero, List.set_cons_succ])
  go_cut [9] (fun v9 wc => ∃ (kq : Nat) (x9_1 : Bool), v9 = .bool x9_1 ∧ Aside0 (tegularef21_Small.j0 kq (wrap64 (a0)) (Int.tmod (wrap64 (a0)) 8) x9_1 0 = some (r1, r2, r3, r4)) ∧ Aside0 (kq ≤ k) ∧ Aside0 (wc.heap[gb197]? = some (.cells #[.int .i64 0, (.slice none 0 0), .int .i64 0, .int .i64 0] 28 (0, 0))) ∧ Aside0 (wc.heap[gb198]? = some (.cells #[.int .i64 0, (.slice none 0 0)] 26 (0, 0))) ∧ Aside0 (Below w.heap.size w wc))
  case first =>
    have H := HC2.out
    clear HC2
    by_cases c5 : (Int.tmod (wrap64 (a0)) 8) = 0
    · rw [if_pos c5] at H
      have c5b0 : ((Int.tmod (wrap64 (a0)) 8) == 0) = true := beq_iff_eq.mpr c5
      have c5b1 : ((Int.tmod (wrap64 (a0)) 8) != 0) = false := bne_eq_false_iff_eq.mpr c5
      clear c5
      (first | rw [c5b0] | (simp only [i64_w, i32_w]; rw [c5b0]) | skip)
      have H' := Aside0.mk H
      clear H
      go_wp2
      go_meet
      case rel => exact ⟨_, (((Int.tmod (wrap64 (a0)) 8) == 0)), (by first | rfl | (simp; done) | (simp [*]; done)), H', ⟨by first | omega | exact Nat.le_refl _⟩, ⟨by (with_reducible repeat (first | refine blk_drewN ?_ _ | refine blk_drew ?_ | refine blk_alloc ?_ _)); exact BK197.out⟩, ⟨by (with_reducible repeat (first | refine blk_drewN ?_ _ | refine blk_drew ?_ | refine blk_alloc ?_ _)); exact BK198.out⟩, ⟨by repeat (first | (with_reducible first | exact HB.out | apply below_alloc | apply pw_below_drewN | apply below_drew1 | refine below_set ?_ GE197.out | refine below_set ?_ GE198.out) | exact HB.out)⟩⟩
    · rw [if_neg c5] at H
      have c5b0 : ((Int.tmod (wrap64 (a0)) 8) == 0) = false := beq_eq_false_iff_ne.mpr c5
      have c5b1 : ((Int.tmod (wrap64 (a0)) 8) != 0) = true := bne_iff_ne.mpr c5
      (first | rw [c5b0] | (simp only [i64_w, i32_w]; rw [c5b0]) | skip)
      by_cases c6 : (Int.tmod (wrap64 (a0)) 8) = 1
      · rw [if_pos c6] at H
        have c6b0 : ((Int.tmod (wrap64 (a0)) 8) == 1) = true := beq_iff_eq.mpr c6
        have c6b1 : ((Int.tmod (wrap64 (a0)) 8) != 1) = false := bne_eq_false_iff_eq.mpr c6
        clear c6
        have H' := Aside0.mk H
        clear H
        go_wp2
        go_meet
        case rel => exact ⟨_, (((Int.tmod (wrap64 (a0)) 8) == 1)), (by first | rfl | (simp; done) | (simp [*]; done)), H', ⟨by first | omega | exact Nat.le_refl _⟩, ⟨by (with_reducible repeat (first | refine blk_drewN ?_ _ | refine blk_drew ?_ | refine blk_alloc ?_ _)); exact BK197.out⟩, ⟨by (with_reducible repeat (first | refine blk_drewN ?_ _ | refine blk_drew ?_ | refine blk_alloc ?_ _)); exact BK198.out⟩, ⟨by repeat (first | (with_reducible first | exact HB.out | apply below_alloc | apply pw_below_drewN | apply below_drew1 | refine below_set ?_ GE197.out | refine below_set ?_ GE198.out) | exact HB.out)⟩⟩
      · rw [if_neg c6] at H
        have c6b0 : ((Int.tmod (wrap64 (a0)) 8) == 1) = false := beq_eq_false_iff_ne.mpr c6
        have c6b1 : ((Int.tmod (wrap64 (a0)) 8) != 1) = true := bne_iff_ne.mpr c6
        have H' := Aside0.mk H
        clear H
        go_wp2
        go_meet
        case rel => exact ⟨_, (((Int.tmod (wrap64 (a0)) 8) == 2)), (by first | rfl | (simp; done) | (simp [*]; done)), H', ⟨by first | omega | exact Nat.le_refl _⟩, ⟨by (with_reducible repeat (first | refine blk_drewN ?_ _ | refine blk_drew ?_ | refine blk_alloc ?_ _)); exact BK197.out⟩, ⟨by (with_reducible repeat (first | refine blk_drewN ?_ _ | refine blk_drew ?_ | refine blk_alloc ?_ _)); exact BK198.out⟩, ⟨by repeat (first | (with_reducible first | exact HB.out | apply below_alloc | apply pw_below_drewN | apply below_drew1 | refine below_set ?_ GE197.out | refine below_set ?_ GE198.out) | exact HB.out)⟩⟩
  case rest =>
    clear HC2
    try clear c1
    try clear p2
    try clear c5
    try clear c5b0
    try clear c5b1
    try clear c6
    try clear c6b0
    try clear c6b1
    try clear p6
    obtain ⟨kq, x9_1, rfl, HA, HJ1, BK197, BK198, HB⟩ := hcut
    cases kq with
    | zero => exact absurd HA.out (by simp [tegularef21_Small.j0])
    | succ kj1 =>
      have H := HA.out
      clear HA
      simp only [tegularef21_Small.j0] at H
      by_cases c7 : x9_1 = true
      · subst c7
        have H1 : ((tegularef07_Complete.f kj1 5 4).bind fun bt199 => (some (bt199.1, bt199.2, wrap64 (1 + (Int.tmod (wrap64 (Int.tdiv (wrap64 (a0)) 16)) 5)), Int.tmod (wrap64 (Int.tdiv (wrap64 (a0)) 80)) 8))) = some (r1, r2, r3, r4) := by rw [if_pos rfl] at H; exact H
        clear H
        have H := H1
        clear H1
        replace H := Option.bind_eq_some_iff.mp H
        obtain ⟨⟨t199, t200⟩, A80, H⟩ := H
        replace H : (some (t199, t200, wrap64 (1 + (Int.tmod (wrap64 (Int.tdiv (wrap64 (a0)) 16)) 5)), Int.tmod (wrap64 (Int.tdiv (wrap64 (a0)) 80)) 8)) = some (r1, r2, r3, r4) := H
        have A8 := Aside0.mk A80
        clear A80
        simp only [Option.some.injEq, Prod.mk.injEq] at H
        obtain ⟨rfl, rfl, rfl, rfl⟩ := H
        go_wp2_with (first | ((with_reducible refine gate_callee (f := 37) rfl ?_); refine goesL_ (some 13) rfl rfl Try.func37 (by kernel_rfl) rfl #[.int .i64 5, .int .i64 4] rfl (by (try simp only [List.map_toArray, List.map_cons, List.map_nil]); first | done | rfl | (simp only [List.length_drop, List.length_take]; rfl)) ?_; (with_reducible refine (tegularef07_Complete.calls kj1 5 4 t199 t200 _ A8.out).mono ?_); rintro e w9 ⟨v201, rfl, ho0, hb⟩; refine ⟨_, rfl, ?_⟩; have n0_ := Aside0.mk (Kd.S_lower ho0 (below_size (by repeat (first | (with_reducible first | exact HB.out | apply below_alloc | apply pw_below_drewN | apply below_drew1 | refine below_set ?_ GE197.out | refine below_set ?_ GE198.out) | exact HB.out)))); have n1_ := Aside0.mk (blk_below (g := gb197) (o := .cells #[.int .i64 0, .slice none 0 0, .int .i64 0, .int .i64 0] 28 (0, 0)) (by (with_reducible repeat (first | refine blk_drewN ?_ _ | refine blk_drew ?_ | refine blk_alloc ?_ _)); exact BK197.out) hb); have n2_ := Aside0.mk (blk_below (g := gb198) (o := .cells #[.int .i64 0, .slice none 0 0] 26 (0, 0)) (by (with_reducible repeat (first | refine blk_drewN ?_ _ | refine blk_drew ?_ | refine blk_alloc ?_ _)); exact BK198.out) hb); have n3_ := Aside0.mk (below_step (by repeat (first | (with_reducible first | exact HB.out | apply below_alloc | apply pw_below_drewN | apply below_drew1 | refine below_set ?_ GE197.out | refine below_set ?_ GE198.out) | exact HB.out)) hb); clear BK197; clear BK198; clear HB; have HO202 := n0_; have BK197 := n1_; have BK198 := n2_; have HB := n3_; clear n0_ n1_ n2_ n3_; (try clear hb); (try clear hb2); (try clear hk); (try clear hi); (try clear ho0); have hnb10 := NB198_197.out; have hnc10 := NB197_198.out; have hcz11_0 : w9.cell? ⟨gb198, 0, none⟩ = some (.int .i64 0) := (blk_cell BK198.out 0).trans rfl; have hcz11_1 : w9.cell? ⟨gb198, 1, none⟩ = some (.slice none 0 0) := (blk_cell BK198.out 1).trans rfl; have hfz11_0 := blk_frozen BK198.out 0; have hfz11_1 := blk_frozen BK198.out 1; obtain ⟨Ao12, co12, eo12⟩ := Kd.S_slice HO202.out; subst eo12; have hcz13_0 : w9.cell? ⟨gb197, 0, none⟩ = some (.int .i64 0) := (blk_cell BK197.out 0).trans rfl; have hcz13_1 : w9.cell? ⟨gb197, 1, none⟩ = some (.slice none 0 0) := (blk_cell BK197.out 1).trans rfl; have hcz13_2 : w9.cell? ⟨gb197, 2, none⟩ = some (.int .i64 0) := (blk_cell BK197.out 2).trans rfl; have hcz13_3 : w9.cell? ⟨gb197, 3, none⟩ = some (.int .i64 0) := (blk_cell BK197.out 3).trans rfl; have hfz13_0 := blk_frozen BK197.out 0; have hfz13_1 := blk_frozen BK197.out 1; have hfz13_2 := blk_frozen BK197.out 2; have hfz13_3 := blk_frozen BK197.out 3))
        refine bodyPost_ret (results_cell_row rfl _ _ gb197 28 #[.int .i64 t199, .slice Ao12 t200.length co12, .int .i64 (wrap64 (1 + (Int.tmod (wrap64 (Int.tdiv (wrap64 (a0)) 16)) 5))), .int .i64 (Int.tmod (wrap64 (Int.tdiv (wrap64 (a0)) 80)) 8)] (0, 0) _ rfl (by (with_reducible repeat (first | refine blk_drewN ?_ _ | refine blk_drew ?_ | refine blk_alloc ?_ _)); refine blk_put (cs := #[.int .i64 t199, .slice Ao12 t200.length co12, .int .i64 (wrap64 (1 + (Int.tmod (wrap64 (Int.tdiv (wrap64 (a0)) 16)) 5))), .int .i64 0]) ?_ 3 _ rfl; (with_reducible repeat (first | refine blk_drewN ?_ _ | refine blk_drew ?_ | refine blk_alloc ?_ _)); refine blk_put (cs := #[.int .i64 t199, .slice Ao12 t200.length co12, .int .i64 0, .int .i64 0]) ?_ 2 _ rfl; (with_reducible repeat (first | refine blk_drewN ?_ _ | refine blk_drew ?_ | refine blk_alloc ?_ _)); refine blk_put (cs := #[.int .i64 t199, .slice none 0 0, .int .i64 0, .int .i64 0]) ?_ 1 _ rfl; (with_reducible repeat (first | refine blk_drewN ?_ _ | refine blk_drew ?_ | refine blk_alloc ?_ _)); refine blk_put (cs := #[.int .i64 0, .slice none 0 0, .int .i64 0, .int .i64 0]) ?_ 0 _ rfl; (with_reducible repeat (first | refine blk_drewN ?_ _ | refine blk_drew ?_ | refine blk_alloc ?_ _)); refine blk_far ?_ NB197_198.out _; (with_reducible repeat (first | refine blk_drewN ?_ _ | refine blk_drew ?_ | refine blk_alloc ?_ _)); refine blk_far ?_ NB197_198.out _; (with_reducible repeat (first | refine blk_drewN ?_ _ | refine blk_drew ?_ | refine blk_alloc ?_ _)); exact BK197.out) Try.underlying28 rfl (by kernel_rfl)) rfl ?_
        exact ⟨_, by first | rfl | (simp [errW_none, errW_some] <;> rfl) | (simp [*, errW_none, errW_some] <;> rfl), by (with_reducible repeat (first | apply Kd.S_alloc | apply Kd.S_drewN | apply Kd.S_drew)); exact Kd.S_mono (Kd.S_far (p := ⟨gb197, 3, none⟩) (Kd.S_far (p := ⟨gb197, 2, none⟩) (Kd.S_far (p := ⟨gb197, 1, none⟩) (Kd.S_far (p := ⟨gb197, 0, none⟩) (Kd.S_far (p := ⟨gb198, 1, none⟩) (Kd.S_far (p := ⟨gb198, 0, none⟩) (Kd.S_types (Kd.S_types HO202.out BK198.out (by decide)) BK197.out (by decide)) (fun _ hk => hk.1.2) (.int .i64 t199)) (fun _ hk => hk.1.2) (.slice Ao12 t200.length co12)) (fun _ hk => hk.2) (.int .i64 t199)) (fun _ hk => hk.2) (.slice Ao12 t200.length co12)) (fun _ hk => hk.2) (.int .i64 (wrap64 (1 + (Int.tmod (wrap64 (Int.tdiv (wrap64 (a0)) 16)) 5))))) (fun _ hk => hk.2) (.int .i64 (Int.tmod (wrap64 (Int.tdiv (wrap64 (a0)) 80)) 8))) (fun _ hk => trivial), by repeat (first | (with_reducible first | exact HB.out | apply below_alloc | apply pw_below_drewN | apply below_drew1 | refine below_set ?_ GE197.out | refine below_set ?_ GE198.out) | exact HB.out)⟩
      · replace c7 := Bool.eq_false_iff.mpr c7
        subst c7
        have H1 : (if (Int.tmod (wrap64 (a0)) 8) = 3 then ((tegularef07_Complete.f kj1 6 4).bind fun bt203 => (some (bt203.1, bt203.2, wrap64 (1 + (Int.tmod (wrap64 (Int.tdiv (wrap64 (a0)) 16)) 5)), Int.tmod (wrap64 (Int.tdiv (wrap64 (a0)) 80)) 8))) else (if (Int.tmod (wrap64 (a0)) 8) = 4 then ((tegularef07_Complete.f kj1 6 5).bind fun bt207 => (some (bt207.1, bt207.2, wrap64 (1 + (Int.tmod (wrap64 (Int.tdiv (wrap64 (a0)) 16)) 5)), Int.tmod (wrap64 (Int.tdiv (wrap64 (a0)) 80)) 8))) else (if (Int.tmod (wrap64 (a0)) 8) = 5 then ((tegularef07_Complete.f kj1 (wrap64 (4 + (Int.tmod (wrap64 (Int.tdiv (wrap64 (a0)) 8)) 2))) (wrap64 (4 + (Int.tmod (wrap64 (Int.tdiv (wrap64 (a0)) 8)) 2)))).bind fun bt211 => (some (bt211.1, bt211.2, wrap64 (1 + (Int.tmod (wrap64 (Int.tdiv (wrap64 (a0)) 16)) 5)), Int.tmod (wrap64 (Int.tdiv (wrap64 (a0)) 80)) 8))) else (if (Int.tmod (wrap64 (a0)) 8) = 6 then ((tegularef06_Projective.f 3).bind fun bt215 => (some (bt215.1, bt215.2, wrap64 (1 + (Int.tmod (wrap64 (Int.tdiv (wrap64 (a0)) 16)) 5)), Int.tmod (wrap64 (Int.tdiv (wrap64 (a0)) 80)) 8))) else (if (Int.tmod (wrap64 (a0)) 8) = 7 then ((tegularef07_Complete.f kj1 7 5).bind fun bt219 => (some (bt219.1, bt219.2, wrap64 (1 + (Int.tmod (wrap64 (Int.tdiv (wrap64 (a0)) 16)) 5)), Int.tmod (wrap64 (Int.tdiv (wrap64 (a0)) 80)) 8))) else (some (0, ([] : List (List Int)), wrap64 (1 + (Int.tmod (wrap64 (Int.tdiv (wrap64 (a0)) 16)) 5)), Int.tmod (wrap64 (Int.tdiv (wrap64 (a0)) 80)) 8))))))) = some (r1, r2, r3, r4) := by rw [if_neg (show ¬ (false = true) by decide)] at H; exact H
        clear H
        have H := H1
        clear H1
        by_cases c14 : (Int.tmod (wrap64 (a0)) 8) = 3
        · rw [if_pos c14] at H
          have c14b0 : ((Int.tmod (wrap64 (a0)) 8) == 3) = true := beq_iff_eq.mpr c14
          have c14b1 : ((Int.tmod (wrap64 (a0)) 8) != 3) = false := bne_eq_false_iff_eq.mpr c14
          clear c14
          replace H := Option.bind_eq_some_iff.mp H
          obtain ⟨⟨t203, t204⟩, A150, H⟩ := H
          replace H : (some (t203, t204, wrap64 (1 + (Int.tmod (wrap64 (Int.tdiv (wrap64 (a0)) 16)) 5)), Int.tmod (wrap64 (Int.tdiv (wrap64 (a0)) 80)) 8)) = some (r1, r2, r3, r4) := H
          have A15 := Aside0.mk A150
          clear A150
          simp only [Option.some.injEq, Prod.mk.injEq] at H
          obtain ⟨rfl, rfl, rfl, rfl⟩ := H
          go_wp2_with (first | ((with_reducible refine gate_callee (f := 37) rfl ?_); refine goesL_ (some 16) rfl rfl Try.func37 (by kernel_rfl) rfl #[.int .i64 6, .int .i64 4] rfl (by (try simp only [List.map_toArray, List.map_cons, List.map_nil]); first | done | rfl | (simp only [List.length_drop, List.length_take]; rfl)) ?_; (with_reducible refine (tegularef07_Complete.calls kj1 6 4 t203 t204 _ A15.out).mono ?_); rintro e w16 ⟨v205, rfl, ho0, hb⟩; refine ⟨_, rfl, ?_⟩; have n0_ := Aside0.mk (Kd.S_lower ho0 (below_size (by repeat (first | (with_reducible first | exact HB.out | apply below_alloc | apply pw_below_drewN | apply below_drew1 | refine below_set ?_ GE197.out | refine below_set ?_ GE198.out) | exact HB.out)))); have n1_ := Aside0.mk (blk_below (g := gb197) (o := .cells #[.int .i64 0, .slice none 0 0, .int .i64 0, .int .i64 0] 28 (0, 0)) (by (with_reducible repeat (first | refine blk_drewN ?_ _ | refine blk_drew ?_ | refine blk_alloc ?_ _)); exact BK197.out) hb); have n2_ := Aside0.mk (blk_below (g := gb198) (o := .cells #[.int .i64 0, .slice none 0 0] 26 (0, 0)) (by (with_reducible repeat (first | refine blk_drewN ?_ _ | refine blk_drew ?_ | refine blk_alloc ?_ _)); exact BK198.out) hb); have n3_ := Aside0.mk (below_step (by repeat (first | (with_reducible first | exact HB.out | apply below_alloc | apply pw_below_drewN | apply below_drew1 | refine below_set ?_ GE197.out | refine below_set ?_ GE198.out) | exact HB.out)) hb); clear BK197; clear BK198; clear HB; have HO206 := n0_; have BK197 := n1_; have BK198 := n2_; have HB := n3_; clear n0_ n1_ n2_ n3_; (try clear hb); (try clear hb2); (try clear hk); (try clear hi); (try clear ho0); have hnb17 := NB198_197.out; have hnc17 := NB197_198.out; have hcz18_0 : w16.cell? ⟨gb198, 0, none⟩ = some (.int .i64 0) := (blk_cell BK198.out 0).trans rfl; have hcz18_1 : w16.cell? ⟨gb198, 1, none⟩ = some (.slice none 0 0) := (blk_cell BK198.out 1).trans rfl; have hfz18_0 := blk_frozen BK198.out 0; have hfz18_1 := blk_frozen BK198.out 1; obtain ⟨Ao19, co19, eo19⟩ := Kd.S_slice HO206.out; subst eo19; have hcz20_0 : w16.cell? ⟨gb197, 0, none⟩ = some (.int .i64 0) := (blk_cell BK197.out 0).trans rfl; have hcz20_1 : w16.cell? ⟨gb197, 1, none⟩ = some (.slice none 0 0) := (blk_cell BK197.out 1).trans rfl; have hcz20_2 : w16.cell? ⟨gb197, 2, none⟩ = some (.int .i64 0) := (blk_cell BK197.out 2).trans rfl; have hcz20_3 : w16.cell? ⟨gb197, 3, none⟩ = some (.int .i64 0) := (blk_cell BK197.out 3).trans rfl; have hfz20_0 := blk_frozen BK197.out 0; have hfz20_1 := blk_frozen BK197.out 1; have hfz20_2 := blk_frozen BK197.out 2; have hfz20_3 := blk_frozen BK197.out 3))
          refine bodyPost_ret (results_cell_row rfl _ _ gb197 28 #[.int .i64 t203, .slice Ao19 t204.length co19, .int .i64 (wrap64 (1 + (Int.tmod (wrap64 (Int.tdiv (wrap64 (a0)) 16)) 5))), .int .i64 (Int.tmod (wrap64 (Int.tdiv (wrap64 (a0)) 80)) 8)] (0, 0) _ rfl (by (with_reducible repeat (first | refine blk_drewN ?_ _ | refine blk_drew ?_ | refine blk_alloc ?_ _)); refine blk_put (cs := #[.int .i64 t203, .slice Ao19 t204.length co19, .int .i64 (wrap64 (1 + (Int.tmod (wrap64 (Int.tdiv (wrap64 (a0)) 16)) 5))), .int .i64 0]) ?_ 3 _ rfl; (with_reducible repeat (first | refine blk_drewN ?_ _ | refine blk_drew ?_ | refine blk_alloc ?_ _)); refine blk_put (cs := #[.int .i64 t203, .slice Ao19 t204.length co19, .int .i64 0, .int .i64 0]) ?_ 2 _ rfl; (with_reducible repeat (first | refine blk_drewN ?_ _ | refine blk_drew ?_ | refine blk_alloc ?_ _)); refine blk_put (cs := #[.int .i64 t203, .slice none 0 0, .int .i64 0, .int .i64 0]) ?_ 1 _ rfl; (with_reducible repeat (first | refine blk_drewN ?_ _ | refine blk_drew ?_ | refine blk_alloc ?_ _)); refine blk_put (cs := #[.int .i64 0, .slice none 0 0, .int .i64 0, .int .i64 0]) ?_ 0 _ rfl; (with_reducible repeat (first | refine blk_drewN ?_ _ | refine blk_drew ?_ | refine blk_alloc ?_ _)); refine blk_far ?_ NB197_198.out _; (with_reducible repeat (first | refine blk_drewN ?_ _ | refine blk_drew ?_ | refine blk_alloc ?_ _)); refine blk_far ?_ NB197_198.out _; (with_reducible repeat (first | refine blk_drewN ?_ _ | refine blk_drew ?_ | refine blk_alloc ?_ _)); exact BK197.out) Try.underlying28 rfl (by kernel_rfl)) rfl ?_
          exact ⟨_, by first | rfl | (simp [errW_none, errW_some] <;> rfl) | (simp [*, errW_none, errW_some] <;> rfl), by (with_reducible repeat (first | apply Kd.S_alloc | apply Kd.S_drewN | apply Kd.S_drew)); exact Kd.S_mono (Kd.S_far (p := ⟨gb197, 3, none⟩) (Kd.S_far (p := ⟨gb197, 2, none⟩) (Kd.S_far (p := ⟨gb197, 1, none⟩) (Kd.S_far (p := ⟨gb197, 0, none⟩) (Kd.S_far (p := ⟨gb198, 1, none⟩) (Kd.S_far (p := ⟨gb198, 0, none⟩) (Kd.S_types (Kd.S_types HO206.out BK198.out (by decide)) BK197.out (by decide)) (fun _ hk => hk.1.2) (.int .i64 t203)) (fun _ hk => hk.1.2) (.slice Ao19 t204.length co19)) (fun _ hk => hk.2) (.int .i64 t203)) (fun _ hk => hk.2) (.slice Ao19 t204.length co19)) (fun _ hk => hk.2) (.int .i64 (wrap64 (1 + (Int.tmod (wrap64 (Int.tdiv (wrap64 (a0)) 16)) 5))))) (fun _ hk => hk.2) (.int .i64 (Int.tmod (wrap64 (Int.tdiv (wrap64 (a0)) 80)) 8))) (fun _ hk => trivial), by repeat (first | (with_reducible first | exact HB.out | apply below_alloc | apply pw_below_drewN | apply below_drew1 | refine below_set ?_ GE197.out | refine below_set ?_ GE198.out) | exact HB.out)⟩
        · rw [if_neg c14] at H
          have c14b0 : ((Int.tmod (wrap64 (a0)) 8) == 3) = false := beq_eq_false_iff_ne.mpr c14
          have c14b1 : ((Int.tmod (wrap64 (a0)) 8) != 3) = true := bne_iff_ne.mpr c14
          by_cases c21 : (Int.tmod (wrap64 (a0)) 8) = 4
          · rw [if_pos c21] at H
            have c21b0 : ((Int.tmod (wrap64 (a0)) 8) == 4) = true := beq_iff_eq.mpr c21
            have c21b1 : ((Int.tmod (wrap64 (a0)) 8) != 4) = false := bne_eq_false_iff_eq.mpr c21
            clear c21
            replace H := Option.bind_eq_some_iff.mp H
            obtain ⟨⟨t207, t208⟩, A220, H⟩ := H
            replace H : (some (t207, t208, wrap64 (1 + (Int.tmod (wrap64 (Int.tdiv (wrap64 (a0)) 16)) 5)), Int.tmod (wrap64 (Int.tdiv (wrap64 (a0)) 80)) 8)) = some (r1, r2, r3, r4) := H
            have A22 := Aside0.mk A220
            clear A220
            simp only [Option.some.injEq, Prod.mk.injEq] at H
            obtain ⟨rfl, rfl, rfl, rfl⟩ := H
            go_wp2_with (first | ((with_reducible refine gate_callee (f := 37) rfl ?_); refine goesL_ (some 19) rfl rfl Try.func37 (by kernel_rfl) rfl #[.int .i64 6, .int .i64 5] rfl (by (try simp only [List.map_toArray, List.map_cons, List.map_nil]); first | done | rfl | (simp only [List.length_drop, List.length_take]; rfl)) ?_; (with_reducible refine (tegularef07_Complete.calls kj1 6 5 t207 t208 _ A22.out).mono ?_); rintro e w23 ⟨v209, rfl, ho0, hb⟩; refine ⟨_, rfl, ?_⟩; have n0_ := Aside0.mk (Kd.S_lower ho0 (below_size (by repeat (first | (with_reducible first | exact HB.out | apply below_alloc | apply pw_below_drewN | apply below_drew1 | refine below_set ?_ GE197.out | refine below_set ?_ GE198.out) | exact HB.out)))); have n1_ := Aside0.mk (blk_below (g := gb197) (o := .cells #[.int .i64 0, .slice none 0 0, .int .i64 0, .int .i64 0] 28 (0, 0)) (by (with_reducible repeat (first | refine blk_drewN ?_ _ | refine blk_drew ?_ | refine blk_alloc ?_ _)); exact BK197.out) hb); have n2_ := Aside0.mk (blk_below (g := gb198) (o := .cells #[.int .i64 0, .slice none 0 0] 26 (0, 0)) (by (with_reducible repeat (first | refine blk_drewN ?_ _ | refine blk_drew ?_ | refine blk_alloc ?_ _)); exact BK198.out) hb); have n3_ := Aside0.mk (below_step (by repeat (first | (with_reducible first | exact HB.out | apply below_alloc | apply pw_below_drewN | apply below_drew1 | refine below_set ?_ GE197.out | refine below_set ?_ GE198.out) | exact HB.out)) hb); clear BK197; clear BK198; clear HB; have HO210 := n0_; have BK197 := n1_; have BK198 := n2_; have HB := n3_; clear n0_ n1_ n2_ n3_; (try clear hb); (try clear hb2); (try clear hk); (try clear hi); (try clear ho0); have hnb24 := NB198_197.out; have hnc24 := NB197_198.out; have hcz25_0 : w23.cell? ⟨gb198, 0, none⟩ = some (.int .i64 0) := (blk_cell BK198.out 0).trans rfl; have hcz25_1 : w23.cell? ⟨gb198, 1, none⟩ = some (.slice none 0 0) := (blk_cell BK198.out 1).trans rfl; have hfz25_0 := blk_frozen BK198.out 0; have hfz25_1 := blk_frozen BK198.out 1; obtain ⟨Ao26, co26, eo26⟩ := Kd.S_slice HO210.out; subst eo26; have hcz27_0 : w23.cell? ⟨gb197, 0, none⟩ = some (.int .i64 0) := (blk_cell BK197.out 0).trans rfl; have hcz27_1 : w23.cell? ⟨gb197, 1, none⟩ = some (.slice none 0 0) := (blk_cell BK197.out 1).trans rfl; have hcz27_2 : w23.cell? ⟨gb197, 2, none⟩ = some (.int .i64 0) := (blk_cell BK197.out 2).trans rfl; have hcz27_3 : w23.cell? ⟨gb197, 3, none⟩ = some (.int .i64 0) := (blk_cell BK197.out 3).trans rfl; have hfz27_0 := blk_frozen BK197.out 0; have hfz27_1 := blk_frozen BK197.out 1; have hfz27_2 := blk_frozen BK197.out 2; have hfz27_3 := blk_frozen BK197.out 3))
            refine bodyPost_ret (results_cell_row rfl _ _ gb197 28 #[.int .i64 t207, .slice Ao26 t208.length co26, .int .i64 (wrap64 (1 + (Int.tmod (wrap64 (Int.tdiv (wrap64 (a0)) 16)) 5))), .int .i64 (Int.tmod (wrap64 (Int.tdiv (wrap64 (a0)) 80)) 8)] (0, 0) _ rfl (by (with_reducible repeat (first | refine blk_drewN ?_ _ | refine blk_drew ?_ | refine blk_alloc ?_ _)); refine blk_put (cs := #[.int .i64 t207, .slice Ao26 t208.length co26, .int .i64 (wrap64 (1 + (Int.tmod (wrap64 (Int.tdiv (wrap64 (a0)) 16)) 5))), .int .i64 0]) ?_ 3 _ rfl; (with_reducible repeat (first | refine blk_drewN ?_ _ | refine blk_drew ?_ | refine blk_alloc ?_ _)); refine blk_put (cs := #[.int .i64 t207, .slice Ao26 t208.length co26, .int .i64 0, .int .i64 0]) ?_ 2 _ rfl; (with_reducible repeat (first | refine blk_drewN ?_ _ | refine blk_drew ?_ | refine blk_alloc ?_ _)); refine blk_put (cs := #[.int .i64 t207, .slice none 0 0, .int .i64 0, .int .i64 0]) ?_ 1 _ rfl; (with_reducible repeat (first | refine blk_drewN ?_ _ | refine blk_drew ?_ | refine blk_alloc ?_ _)); refine blk_put (cs := #[.int .i64 0, .slice none 0 0, .int .i64 0, .int .i64 0]) ?_ 0 _ rfl; (with_reducible repeat (first | refine blk_drewN ?_ _ | refine blk_drew ?_ | refine blk_alloc ?_ _)); refine blk_far ?_ NB197_198.out _; (with_reducible repeat (first | refine blk_drewN ?_ _ | refine blk_drew ?_ | refine blk_alloc ?_ _)); refine blk_far ?_ NB197_198.out _; (with_reducible repeat (first | refine blk_drewN ?_ _ | refine blk_drew ?_ | refine blk_alloc ?_ _)); exact BK197.out) Try.underlying28 rfl (by kernel_rfl)) rfl ?_
            exact ⟨_, by first | rfl | (simp [errW_none, errW_some] <;> rfl) | (simp [*, errW_none, errW_some] <;> rfl), by (with_reducible repeat (first | apply Kd.S_alloc | apply Kd.S_drewN | apply Kd.S_drew)); exact Kd.S_mono (Kd.S_far (p := ⟨gb197, 3, none⟩) (Kd.S_far (p := ⟨gb197, 2, none⟩) (Kd.S_far (p := ⟨gb197, 1, none⟩) (Kd.S_far (p := ⟨gb197, 0, none⟩) (Kd.S_far (p := ⟨gb198, 1, none⟩) (Kd.S_far (p := ⟨gb198, 0, none⟩) (Kd.S_types (Kd.S_types HO210.out BK198.out (by decide)) BK197.out (by decide)) (fun _ hk => hk.1.2) (.int .i64 t207)) (fun _ hk => hk.1.2) (.slice Ao26 t208.length co26)) (fun _ hk => hk.2) (.int .i64 t207)) (fun _ hk => hk.2) (.slice Ao26 t208.length co26)) (fun _ hk => hk.2) (.int .i64 (wrap64 (1 + (Int.tmod (wrap64 (Int.tdiv (wrap64 (a0)) 16)) 5))))) (fun _ hk => hk.2) (.int .i64 (Int.tmod (wrap64 (Int.tdiv (wrap64 (a0)) 80)) 8))) (fun _ hk => trivial), by repeat (first | (with_reducible first | exact HB.out | apply below_alloc | apply pw_below_drewN | apply below_drew1 | refine below_set ?_ GE197.out | refine below_set ?_ GE198.out) | exact HB.out)⟩
          · rw [if_neg c21] at H
            have c21b0 : ((Int.tmod (wrap64 (a0)) 8) == 4) = false := beq_eq_false_iff_ne.mpr c21
            have c21b1 : ((Int.tmod (wrap64 (a0)) 8) != 4) = true := bne_iff_ne.mpr c21
            by_cases c28 : (Int.tmod (wrap64 (a0)) 8) = 5
            · rw [if_pos c28] at H
              have c28b0 : ((Int.tmod (wrap64 (a0)) 8) == 5) = true := beq_iff_eq.mpr c28
              have c28b1 : ((Int.tmod (wrap64 (a0)) 8) != 5) = false := bne_eq_false_iff_eq.mpr c28
              clear c28
              replace H := Option.bind_eq_some_iff.mp H
              obtain ⟨⟨t211, t212⟩, A290, H⟩ := H
              replace H : (some (t211, t212, wrap64 (1 + (Int.tmod (wrap64 (Int.tdiv (wrap64 (a0)) 16)) 5)), Int.tmod (wrap64 (Int.tdiv (wrap64 (a0)) 80)) 8)) = some (r1, r2, r3, r4) := H
              have A29 := Aside0.mk A290
              clear A290
              simp only [Option.some.injEq, Prod.mk.injEq] at H
              obtain ⟨rfl, rfl, rfl, rfl⟩ := H
              go_wp2_with (first | ((with_reducible refine gate_callee (f := 37) rfl ?_); refine goesL_ (some 30) rfl rfl Try.func37 (by kernel_rfl) rfl #[.int .i64 (wrap64 (4 + (Int.tmod (wrap64 (Int.tdiv (wrap64 (a0)) 8)) 2))), .int .i64 (wrap64 (4 + (Int.tmod (wrap64 (Int.tdiv (wrap64 (a0)) 8)) 2)))] rfl (by (try simp only [List.map_toArray, List.map_cons, List.map_nil]); first | done | rfl | (simp only [List.length_drop, List.length_take]; rfl)) ?_; (with_reducible refine (tegularef07_Complete.calls kj1 (wrap64 (4 + (Int.tmod (wrap64 (Int.tdiv (wrap64 (a0)) 8)) 2))) (wrap64 (4 + (Int.tmod (wrap64 (Int.tdiv (wrap64 (a0)) 8)) 2))) t211 t212 _ A29.out).mono ?_); rintro e w30 ⟨v213, rfl, ho0, hb⟩; refine ⟨_, rfl, ?_⟩; have n0_ := Aside0.mk (Kd.S_lower ho0 (below_size (by repeat (first | (with_reducible first | exact HB.out | apply below_alloc | apply pw_below_drewN | apply below_drew1 | refine below_set ?_ GE197.out | refine below_set ?_ GE198.out) | exact HB.out)))); have n1_ := Aside0.mk (blk_below (g := gb197) (o := .cells #[.int .i64 0, .slice none 0 0, .int .i64 0, .int .i64 0] 28 (0, 0)) (by (with_reducible repeat (first | refine blk_drewN ?_ _ | refine blk_drew ?_ | refine blk_alloc ?_ _)); exact BK197.out) hb); have n2_ := Aside0.mk (blk_below (g := gb198) (o := .cells #[.int .i64 0, .slice none 0 0] 26 (0, 0)) (by (with_reducible repeat (first | refine blk_drewN ?_ _ | refine blk_drew ?_ | refine blk_alloc ?_ _)); exact BK198.out) hb); have n3_ := Aside0.mk (below_step (by repeat (first | (with_reducible first | exact HB.out | apply below_alloc | apply pw_below_drewN | apply below_drew1 | refine below_set ?_ GE197.out | refine below_set ?_ GE198.out) | exact HB.out)) hb); clear BK197; clear BK198; clear HB; have HO214 := n0_; have BK197 := n1_; have BK198 := n2_; have HB := n3_; clear n0_ n1_ n2_ n3_; (try clear hb); (try clear hb2); (try clear hk); (try clear hi); (try clear ho0); have hnb31 := NB198_197.out; have hnc31 := NB197_198.out; have hcz32_0 : w30.cell? ⟨gb198, 0, none⟩ = some (.int .i64 0) := (blk_cell BK198.out 0).trans rfl; have hcz32_1 : w30.cell? ⟨gb198, 1, none⟩ = some (.slice none 0 0) := (blk_cell BK198.out 1).trans rfl; have hfz32_0 := blk_frozen BK198.out 0; have hfz32_1 := blk_frozen BK198.out 1; obtain ⟨Ao33, co33, eo33⟩ := Kd.S_slice HO214.out; subst eo33; have hcz34_0 : w30.cell? ⟨gb197, 0, none⟩ = some (.int .i64 0) := (blk_cell BK197.out 0).trans rfl; have hcz34_1 : w30.cell? ⟨gb197, 1, none⟩ = some (.slice none 0 0) := (blk_cell BK197.out 1).trans rfl; have hcz34_2 : w30.cell? ⟨gb197, 2, none⟩ = some (.int .i64 0) := (blk_cell BK197.out 2).trans rfl; have hcz34_3 : w30.cell? ⟨gb197, 3, none⟩ = some (.int .i64 0) := (blk_cell BK197.out 3).trans rfl; have hfz34_0 := blk_frozen BK197.out 0; have hfz34_1 := blk_frozen BK197.out 1; have hfz34_2 := blk_frozen BK197.out 2; have hfz34_3 := blk_frozen BK197.out 3))
              refine bodyPost_ret (results_cell_row rfl _ _ gb197 28 #[.int .i64 t211, .slice Ao33 t212.length co33, .int .i64 (wrap64 (1 + (Int.tmod (wrap64 (Int.tdiv (wrap64 (a0)) 16)) 5))), .int .i64 (Int.tmod (wrap64 (Int.tdiv (wrap64 (a0)) 80)) 8)] (0, 0) _ rfl (by (with_reducible repeat (first | refine blk_drewN ?_ _ | refine blk_drew ?_ | refine blk_alloc ?_ _)); refine blk_put (cs := #[.int .i64 t211, .slice Ao33 t212.length co33, .int .i64 (wrap64 (1 + (Int.tmod (wrap64 (Int.tdiv (wrap64 (a0)) 16)) 5))), .int .i64 0]) ?_ 3 _ rfl; (with_reducible repeat (first | refine blk_drewN ?_ _ | refine blk_drew ?_ | refine blk_alloc ?_ _)); refine blk_put (cs := #[.int .i64 t211, .slice Ao33 t212.length co33, .int .i64 0, .int .i64 0]) ?_ 2 _ rfl; (with_reducible repeat (first | refine blk_drewN ?_ _ | refine blk_drew ?_ | refine blk_alloc ?_ _)); refine blk_put (cs := #[.int .i64 t211, .slice none 0 0, .int .i64 0, .int .i64 0]) ?_ 1 _ rfl; (with_reducible repeat (first | refine blk_drewN ?_ _ | refine blk_drew ?_ | refine blk_alloc ?_ _)); refine blk_put (cs := #[.int .i64 0, .slice none 0 0, .int .i64 0, .int .i64 0]) ?_ 0 _ rfl; (with_reducible repeat (first | refine blk_drewN ?_ _ | refine blk_drew ?_ | refine blk_alloc ?_ _)); refine blk_far ?_ NB197_198.out _; (with_reducible repeat (first | refine blk_drewN ?_ _ | refine blk_drew ?_ | refine blk_alloc ?_ _)); refine blk_far ?_ NB197_198.out _; (with_reducible repeat (first | refine blk_drewN ?_ _ | refine blk_drew ?_ | refine blk_alloc ?_ _)); exact BK197.out) Try.underlying28 rfl (by kernel_rfl)) rfl ?_
              exact ⟨_, by first | rfl | (simp [errW_none, errW_some] <;> rfl) | (simp [*, errW_none, errW_some] <;> rfl), by (with_reducible repeat (first | apply Kd.S_alloc | apply Kd.S_drewN | apply Kd.S_drew)); exact Kd.S_mono (Kd.S_far (p := ⟨gb197, 3, none⟩) (Kd.S_far (p := ⟨gb197, 2, none⟩) (Kd.S_far (p := ⟨gb197, 1, none⟩) (Kd.S_far (p := ⟨gb197, 0, none⟩) (Kd.S_far (p := ⟨gb198, 1, none⟩) (Kd.S_far (p := ⟨gb198, 0, none⟩) (Kd.S_types (Kd.S_types HO214.out BK198.out (by decide)) BK197.out (by decide)) (fun _ hk => hk.1.2) (.int .i64 t211)) (fun _ hk => hk.1.2) (.slice Ao33 t212.length co33)) (fun _ hk => hk.2) (.int .i64 t211)) (fun _ hk => hk.2) (.slice Ao33 t212.length co33)) (fun _ hk => hk.2) (.int .i64 (wrap64 (1 + (Int.tmod (wrap64 (Int.tdiv (wrap64 (a0)) 16)) 5))))) (fun _ hk => hk.2) (.int .i64 (Int.tmod (wrap64 (Int.tdiv (wrap64 (a0)) 80)) 8))) (fun _ hk => trivial), by repeat (first | (with_reducible first | exact HB.out | apply below_alloc | apply pw_below_drewN | apply below_drew1 | refine below_set ?_ GE197.out | refine below_set ?_ GE198.out) | exact HB.out)⟩
            · rw [if_neg c28] at H
              have c28b0 : ((Int.tmod (wrap64 (a0)) 8) == 5) = false := beq_eq_false_iff_ne.mpr c28
              have c28b1 : ((Int.tmod (wrap64 (a0)) 8) != 5) = true := bne_iff_ne.mpr c28
              by_cases c35 : (Int.tmod (wrap64 (a0)) 8) = 6
              · rw [if_pos c35] at H
                have c35b0 : ((Int.tmod (wrap64 (a0)) 8) == 6) = true := beq_iff_eq.mpr c35
                have c35b1 : ((Int.tmod (wrap64 (a0)) 8) != 6) = false := bne_eq_false_iff_eq.mpr c35
                clear c35
                replace H := Option.bind_eq_some_iff.mp H
                obtain ⟨⟨t215, t216⟩, A360, H⟩ := H
                replace H : (some (t215, t216, wrap64 (1 + (Int.tmod (wrap64 (Int.tdiv (wrap64 (a0)) 16)) 5)), Int.tmod (wrap64 (Int.tdiv (wrap64 (a0)) 80)) 8)) = some (r1, r2, r3, r4) := H
                have A36 := Aside0.mk A360
                clear A360
                simp only [Option.some.injEq, Prod.mk.injEq] at H
                obtain ⟨rfl, rfl, rfl, rfl⟩ := H
                go_wp2_with (first | ((with_reducible refine gate_callee (f := 38) rfl ?_); refine goesL_ (some 33) rfl rfl Try.func38 (by kernel_rfl) rfl #[.int .i64 3] rfl (by (try simp only [List.map_toArray, List.map_cons, List.map_nil]); first | done | rfl | (simp only [List.length_drop, List.length_take]; rfl)) ?_; (with_reducible refine (tegularef06_Projective.calls 3 t215 t216 _ A36.out).mono ?_); rintro e w37 ⟨v217, rfl, ho0, hb⟩; refine ⟨_, rfl, ?_⟩; have n0_ := Aside0.mk (Kd.S_lower ho0 (below_size (by repeat (first | (with_reducible first | exact HB.out | apply below_alloc | apply pw_below_drewN | apply below_drew1 | refine below_set ?_ GE197.out | refine below_set ?_ GE198.out) | exact HB.out)))); have n1_ := Aside0.mk (blk_below (g := gb197) (o := .cells #[.int .i64 0, .slice none 0 0, .int .i64 0, .int .i64 0] 28 (0, 0)) (by (with_reducible repeat (first | refine blk_drewN ?_ _ | refine blk_drew ?_ | refine blk_alloc ?_ _)); exact BK197.out) hb); have n2_ := Aside0.mk (blk_below (g := gb198) (o := .cells #[.int .i64 0, .slice none 0 0] 26 (0, 0)) (by (with_reducible repeat (first | refine blk_drewN ?_ _ | refine blk_drew ?_ | refine blk_alloc ?_ _)); exact BK198.out) hb); have n3_ := Aside0.mk (below_step (by repeat (first | (with_reducible first | exact HB.out | apply below_alloc | apply pw_below_drewN | apply below_drew1 | refine below_set ?_ GE197.out | refine below_set ?_ GE198.out) | exact HB.out)) hb); clear BK197; clear BK198; clear HB; have HO218 := n0_; have BK197 := n1_; have BK198 := n2_; have HB := n3_; clear n0_ n1_ n2_ n3_; (try clear hb); (try clear hb2); (try clear hk); (try clear hi); (try clear ho0); have hnb38 := NB198_197.out; have hnc38 := NB197_198.out; have hcz39_0 : w37.cell? ⟨gb198, 0, none⟩ = some (.int .i64 0) := (blk_cell BK198.out 0).trans rfl; have hcz39_1 : w37.cell? ⟨gb198, 1, none⟩ = some (.slice none 0 0) := (blk_cell BK198.out 1).trans rfl; have hfz39_0 := blk_frozen BK198.out 0; have hfz39_1 := blk_frozen BK198.out 1; obtain ⟨Ao40, co40, eo40⟩ := Kd.S_slice HO218.out; subst eo40; have hcz41_0 : w37.cell? ⟨gb197, 0, none⟩ = some (.int .i64 0) := (blk_cell BK197.out 0).trans rfl; have hcz41_1 : w37.cell? ⟨gb197, 1, none⟩ = some (.slice none 0 0) := (blk_cell BK197.out 1).trans rfl; have hcz41_2 : w37.cell? ⟨gb197, 2, none⟩ = some (.int .i64 0) := (blk_cell BK197.out 2).trans rfl; have hcz41_3 : w37.cell? ⟨gb197, 3, none⟩ = some (.int .i64 0) := (blk_cell BK197.out 3).trans rfl; have hfz41_0 := blk_frozen BK197.out 0; have hfz41_1 := blk_frozen BK197.out 1; have hfz41_2 := blk_frozen BK197.out 2; have hfz41_3 := blk_frozen BK197.out 3))
                refine bodyPost_ret (results_cell_row rfl _ _ gb197 28 #[.int .i64 t215, .slice Ao40 t216.length co40, .int .i64 (wrap64 (1 + (Int.tmod (wrap64 (Int.tdiv (wrap64 (a0)) 16)) 5))), .int .i64 (Int.tmod (wrap64 (Int.tdiv (wrap64 (a0)) 80)) 8)] (0, 0) _ rfl (by (with_reducible repeat (first | refine blk_drewN ?_ _ | refine blk_drew ?_ | refine blk_alloc ?_ _)); refine blk_put (cs := #[.int .i64 t215, .slice Ao40 t216.length co40, .int .i64 (wrap64 (1 + (Int.tmod (wrap64 (Int.tdiv (wrap64 (a0)) 16)) 5))), .int .i64 0]) ?_ 3 _ rfl; (with_reducible repeat (first | refine blk_drewN ?_ _ | refine blk_drew ?_ | refine blk_alloc ?_ _)); refine blk_put (cs := #[.int .i64 t215, .slice Ao40 t216.length co40, .int .i64 0, .int .i64 0]) ?_ 2 _ rfl; (with_reducible repeat (first | refine blk_drewN ?_ _ | refine blk_drew ?_ | refine blk_alloc ?_ _)); refine blk_put (cs := #[.int .i64 t215, .slice none 0 0, .int .i64 0, .int .i64 0]) ?_ 1 _ rfl; (with_reducible repeat (first | refine blk_drewN ?_ _ | refine blk_drew ?_ | refine blk_alloc ?_ _)); refine blk_put (cs := #[.int .i64 0, .slice none 0 0, .int .i64 0, .int .i64 0]) ?_ 0 _ rfl; (with_reducible repeat (first | refine blk_drewN ?_ _ | refine blk_drew ?_ | refine blk_alloc ?_ _)); refine blk_far ?_ NB197_198.out _; (with_reducible repeat (first | refine blk_drewN ?_ _ | refine blk_drew ?_ | refine blk_alloc ?_ _)); refine blk_far ?_ NB197_198.out _; (with_reducible repeat (first | refine blk_drewN ?_ _ | refine blk_drew ?_ | refine blk_alloc ?_ _)); exact BK197.out) Try.underlying28 rfl (by kernel_rfl)) rfl ?_
                exact ⟨_, by first | rfl | (simp [errW_none, errW_some] <;> rfl) | (simp [*, errW_none, errW_some] <;> rfl), by (with_reducible repeat (first | apply Kd.S_alloc | apply Kd.S_drewN | apply Kd.S_drew)); exact Kd.S_mono (Kd.S_far (p := ⟨gb197, 3, none⟩) (Kd.S_far (p := ⟨gb197, 2, none⟩) (Kd.S_far (p := ⟨gb197, 1, none⟩) (Kd.S_far (p := ⟨gb197, 0, none⟩) (Kd.S_far (p := ⟨gb198, 1, none⟩) (Kd.S_far (p := ⟨gb198, 0, none⟩) (Kd.S_types (Kd.S_types HO218.out BK198.out (by decide)) BK197.out (by decide)) (fun _ hk => hk.1.2) (.int .i64 t215)) (fun _ hk => hk.1.2) (.slice Ao40 t216.length co40)) (fun _ hk => hk.2) (.int .i64 t215)) (fun _ hk => hk.2) (.slice Ao40 t216.length co40)) (fun _ hk => hk.2) (.int .i64 (wrap64 (1 + (Int.tmod (wrap64 (Int.tdiv (wrap64 (a0)) 16)) 5))))) (fun _ hk => hk.2) (.int .i64 (Int.tmod (wrap64 (Int.tdiv (wrap64 (a0)) 80)) 8))) (fun _ hk => trivial), by repeat (first | (with_reducible first | exact HB.out | apply below_alloc | apply pw_below_drewN | apply below_drew1 | refine below_set ?_ GE197.out | refine below_set ?_ GE198.out) | exact HB.out)⟩
              · rw [if_neg c35] at H
                have c35b0 : ((Int.tmod (wrap64 (a0)) 8) == 6) = false := beq_eq_false_iff_ne.mpr c35
                have c35b1 : ((Int.tmod (wrap64 (a0)) 8) != 6) = true := bne_iff_ne.mpr c35
                by_cases c42 : (Int.tmod (wrap64 (a0)) 8) = 7
                · rw [if_pos c42] at H
                  have c42b0 : ((Int.tmod (wrap64 (a0)) 8) == 7) = true := beq_iff_eq.mpr c42
                  have c42b1 : ((Int.tmod (wrap64 (a0)) 8) != 7) = false := bne_eq_false_iff_eq.mpr c42
                  clear c42
                  replace H := Option.bind_eq_some_iff.mp H
                  obtain ⟨⟨t219, t220⟩, A430, H⟩ := H
                  replace H : (some (t219, t220, wrap64 (1 + (Int.tmod (wrap64 (Int.tdiv (wrap64 (a0)) 16)) 5)), Int.tmod (wrap64 (Int.tdiv (wrap64 (a0)) 80)) 8)) = some (r1, r2, r3, r4) := H
                  have A43 := Aside0.mk A430
                  clear A430
                  simp only [Option.some.injEq, Prod.mk.injEq] at H
                  obtain ⟨rfl, rfl, rfl, rfl⟩ := H
                  go_wp2_with (first | ((with_reducible refine gate_callee (f := 37) rfl ?_); refine goesL_ (some 36) rfl rfl Try.func37 (by kernel_rfl) rfl #[.int .i64 7, .int .i64 5] rfl (by (try simp only [List.map_toArray, List.map_cons, List.map_nil]); first | done | rfl | (simp only [List.length_drop, List.length_take]; rfl)) ?_; (with_reducible refine (tegularef07_Complete.calls kj1 7 5 t219 t220 _ A43.out).mono ?_); rintro e w44 ⟨v221, rfl, ho0, hb⟩; refine ⟨_, rfl, ?_⟩; have n0_ := Aside0.mk (Kd.S_lower ho0 (below_size (by repeat (first | (with_reducible first | exact HB.out | apply below_alloc | apply pw_below_drewN | apply below_drew1 | refine below_set ?_ GE197.out | refine below_set ?_ GE198.out) | exact HB.out)))); have n1_ := Aside0.mk (blk_below (g := gb197) (o := .cells #[.int .i64 0, .slice none 0 0, .int .i64 0, .int .i64 0] 28 (0, 0)) (by (with_reducible repeat (first | refine blk_drewN ?_ _ | refine blk_drew ?_ | refine blk_alloc ?_ _)); exact BK197.out) hb); have n2_ := Aside0.mk (blk_below (g := gb198) (o := .cells #[.int .i64 0, .slice none 0 0] 26 (0, 0)) (by (with_reducible repeat (first | refine blk_drewN ?_ _ | refine blk_drew ?_ | refine blk_alloc ?_ _)); exact BK198.out) hb); have n3_ := Aside0.mk (below_step (by repeat (first | (with_reducible first | exact HB.out | apply below_alloc | apply pw_below_drewN | apply below_drew1 | refine below_set ?_ GE197.out | refine below_set ?_ GE198.out) | exact HB.out)) hb); clear BK197; clear BK198; clear HB; have HO222 := n0_; have BK197 := n1_; have BK198 := n2_; have HB := n3_; clear n0_ n1_ n2_ n3_; (try clear hb); (try clear hb2); (try clear hk); (try clear hi); (try clear ho0); have hnb45 := NB198_197.out; have hnc45 := NB197_198.out; have hcz46_0 : w44.cell? ⟨gb198, 0, none⟩ = some (.int .i64 0) := (blk_cell BK198.out 0).trans rfl; have hcz46_1 : w44.cell? ⟨gb198, 1, none⟩ = some (.slice none 0 0) := (blk_cell BK198.out 1).trans rfl; have hfz46_0 := blk_frozen BK198.out 0; have hfz46_1 := blk_frozen BK198.out 1; obtain ⟨Ao47, co47, eo47⟩ := Kd.S_slice HO222.out; subst eo47; have hcz48_0 : w44.cell? ⟨gb197, 0, none⟩ = some (.int .i64 0) := (blk_cell BK197.out 0).trans rfl; have hcz48_1 : w44.cell? ⟨gb197, 1, none⟩ = some (.slice none 0 0) := (blk_cell BK197.out 1).trans rfl; have hcz48_2 : w44.cell? ⟨gb197, 2, none⟩ = some (.int .i64 0) := (blk_cell BK197.out 2).trans rfl; have hcz48_3 : w44.cell? ⟨gb197, 3, none⟩ = some (.int .i64 0) := (blk_cell BK197.out 3).trans rfl; have hfz48_0 := blk_frozen BK197.out 0; have hfz48_1 := blk_frozen BK197.out 1; have hfz48_2 := blk_frozen BK197.out 2; have hfz48_3 := blk_frozen BK197.out 3))
                  refine bodyPost_ret (results_cell_row rfl _ _ gb197 28 #[.int .i64 t219, .slice Ao47 t220.length co47, .int .i64 (wrap64 (1 + (Int.tmod (wrap64 (Int.tdiv (wrap64 (a0)) 16)) 5))), .int .i64 (Int.tmod (wrap64 (Int.tdiv (wrap64 (a0)) 80)) 8)] (0, 0) _ rfl (by (with_reducible repeat (first | refine blk_drewN ?_ _ | refine blk_drew ?_ | refine blk_alloc ?_ _)); refine blk_put (cs := #[.int .i64 t219, .slice Ao47 t220.length co47, .int .i64 (wrap64 (1 + (Int.tmod (wrap64 (Int.tdiv (wrap64 (a0)) 16)) 5))), .int .i64 0]) ?_ 3 _ rfl; (with_reducible repeat (first | refine blk_drewN ?_ _ | refine blk_drew ?_ | refine blk_alloc ?_ _)); refine blk_put (cs := #[.int .i64 t219, .slice Ao47 t220.length co47, .int .i64 0, .int .i64 0]) ?_ 2 _ rfl; (with_reducible repeat (first | refine blk_drewN ?_ _ | refine blk_drew ?_ | refine blk_alloc ?_ _)); refine blk_put (cs := #[.int .i64 t219, .slice none 0 0, .int .i64 0, .int .i64 0]) ?_ 1 _ rfl; (with_reducible repeat (first | refine blk_drewN ?_ _ | refine blk_drew ?_ | refine blk_alloc ?_ _)); refine blk_put (cs := #[.int .i64 0, .slice none 0 0, .int .i64 0, .int .i64 0]) ?_ 0 _ rfl; (with_reducible repeat (first | refine blk_drewN ?_ _ | refine blk_drew ?_ | refine blk_alloc ?_ _)); refine blk_far ?_ NB197_198.out _; (with_reducible repeat (first | refine blk_drewN ?_ _ | refine blk_drew ?_ | refine blk_alloc ?_ _)); refine blk_far ?_ NB197_198.out _; (with_reducible repeat (first | refine blk_drewN ?_ _ | refine blk_drew ?_ | refine blk_alloc ?_ _)); exact BK197.out) Try.underlying28 rfl (by kernel_rfl)) rfl ?_
                  exact ⟨_, by first | rfl | (simp [errW_none, errW_some] <;> rfl) | (simp [*, errW_none, errW_some] <;> rfl), by (with_reducible repeat (first | apply Kd.S_alloc | apply Kd.S_drewN | apply Kd.S_drew)); exact Kd.S_mono (Kd.S_far (p := ⟨gb197, 3, none⟩) (Kd.S_far (p := ⟨gb197, 2, none⟩) (Kd.S_far (p := ⟨gb197, 1, none⟩) (Kd.S_far (p := ⟨gb197, 0, none⟩) (Kd.S_far (p := ⟨gb198, 1, none⟩) (Kd.S_far (p := ⟨gb198, 0, none⟩) (Kd.S_types (Kd.S_types HO222.out BK198.out (by decide)) BK197.out (by decide)) (fun _ hk => hk.1.2) (.int .i64 t219)) (fun _ hk => hk.1.2) (.slice Ao47 t220.length co47)) (fun _ hk => hk.2) (.int .i64 t219)) (fun _ hk => hk.2) (.slice Ao47 t220.length co47)) (fun _ hk => hk.2) (.int .i64 (wrap64 (1 + (Int.tmod (wrap64 (Int.tdiv (wrap64 (a0)) 16)) 5))))) (fun _ hk => hk.2) (.int .i64 (Int.tmod (wrap64 (Int.tdiv (wrap64 (a0)) 80)) 8))) (fun _ hk => trivial), by repeat (first | (with_reducible first | exact HB.out | apply below_alloc | apply pw_below_drewN | apply below_drew1 | refine below_set ?_ GE197.out | refine below_set ?_ GE198.out) | exact HB.out)⟩
                · rw [if_neg c42] at H
                  have c42b0 : ((Int.tmod (wrap64 (a0)) 8) == 7) = false := beq_eq_false_iff_ne.mpr c42
                  have c42b1 : ((Int.tmod (wrap64 (a0)) 8) != 7) = true := bne_iff_ne.mpr c42
                  simp only [Option.some.injEq, Prod.mk.injEq] at H
                  obtain ⟨rfl, rfl, rfl, rfl⟩ := H
                  have hnb49 := NB198_197.out
                  have hnc49 := NB197_198.out
                  have hcz50_0 : wc.cell? ⟨gb198, 0, none⟩ = some (.int .i64 0) := (blk_cell BK198.out 0).trans rfl
                  have hcz50_1 : wc.cell? ⟨gb198, 1, none⟩ = some (.slice none 0 0) := (blk_cell BK198.out 1).trans rfl
                  have hfz50_0 := blk_frozen BK198.out 0
                  have hfz50_1 := blk_frozen BK198.out 1
                  have hcz51_0 : wc.cell? ⟨gb197, 0, none⟩ = some (.int .i64 0) := (blk_cell BK197.out 0).trans rfl
                  have hcz51_1 : wc.cell? ⟨gb197, 1, none⟩ = some (.slice none 0 0) := (blk_cell BK197.out 1).trans rfl
                  have hcz51_2 : wc.cell? ⟨gb197, 2, none⟩ = some (.int .i64 0) := (blk_cell BK197.out 2).trans rfl
                  have hcz51_3 : wc.cell? ⟨gb197, 3, none⟩ = some (.int .i64 0) := (blk_cell BK197.out 3).trans rfl
                  have hfz51_0 := blk_frozen BK197.out 0
                  have hfz51_1 := blk_frozen BK197.out 1
                  have hfz51_2 := blk_frozen BK197.out 2
                  have hfz51_3 := blk_frozen BK197.out 3
                  go_wp2
                  refine bodyPost_ret (results_cell_row rfl _ _ gb197 28 #[.int .i64 0, .slice none 0 0, .int .i64 (wrap64 (1 + (Int.tmod (wrap64 (Int.tdiv (wrap64 (a0)) 16)) 5))), .int .i64 (Int.tmod (wrap64 (Int.tdiv (wrap64 (a0)) 80)) 8)] (0, 0) _ rfl (by (with_reducible repeat (first | refine blk_drewN ?_ _ | refine blk_drew ?_ | refine blk_alloc ?_ _)); refine blk_put (cs := #[.int .i64 0, .slice none 0 0, .int .i64 (wrap64 (1 + (Int.tmod (wrap64 (Int.tdiv (wrap64 (a0)) 16)) 5))), .int .i64 0]) ?_ 3 _ rfl; (with_reducible repeat (first | refine blk_drewN ?_ _ | refine blk_drew ?_ | refine blk_alloc ?_ _)); refine blk_put (cs := #[.int .i64 0, .slice none 0 0, .int .i64 0, .int .i64 0]) ?_ 2 _ rfl; (with_reducible repeat (first | refine blk_drewN ?_ _ | refine blk_drew ?_ | refine blk_alloc ?_ _)); refine blk_put (cs := #[.int .i64 0, .slice none 0 0, .int .i64 0, .int .i64 0]) ?_ 1 _ rfl; (with_reducible repeat (first | refine blk_drewN ?_ _ | refine blk_drew ?_ | refine blk_alloc ?_ _)); refine blk_put (cs := #[.int .i64 0, .slice none 0 0, .int .i64 0, .int .i64 0]) ?_ 0 _ rfl; (with_reducible repeat (first | refine blk_drewN ?_ _ | refine blk_drew ?_ | refine blk_alloc ?_ _)); exact BK197.out) Try.underlying28 rfl (by kernel_rfl)) rfl ?_
                  exact ⟨_, by first | rfl | (simp [errW_none, errW_some] <;> rfl) | (simp [*, errW_none, errW_some] <;> rfl), by first | exact Kd.S_nil _ _ _ _ _ | exact Kd.N_nil _ _ _ _ _ | exact Kd.V_nil _ _ _ _ _ | exact Kd.Q_nil _ _ _ _ _ | exact Kd.R_nil _ _ _ _ _, by repeat (first | (with_reducible first | exact HB.out | apply below_alloc | apply pw_below_drewN | apply below_drew1 | refine below_set ?_ GE197.out | refine below_set ?_ GE198.out) | exact HB.out)⟩

/-! ### tegularef21_Groups: function 22 -/
def tegularef21_Groups.f (a0_0 : Int) (l0_1 : List (List Int)) (a0_2 : Int) (a0_3 : Int) : Option (Int) := some (wrap64 (a0_2 * (l0_1.length : Int)))
set_option maxHeartbeats 8000000 in
set_option maxRecDepth 100000 in
theorem tegularef21_Groups.calls (a0_0 : Int) (A0_1 : Option Addr) (c0_1 : Nat) (l0_1 : List (List Int)) (a0_2 : Int) (a0_3 : Int) (r : Int) (w : World) (hr0_1 : Kd.C (Kd.slice 3 (Kd.int .i64)) w A0_1 l0_1.length l0_1) (hc0_1 : l0_1.length ≤ c0_1) (h : tegularef21_Groups.f a0_0 l0_1 a0_2 a0_3 = some r) :
    Calls Try.prog 22 #[.agg #[.int .i64 a0_0, .slice A0_1 l0_1.length c0_1, .int .i64 a0_2, .int .i64 a0_3]] w fun e w' => e = .returned (.int .i64 r) ∧ Below w.heap.size w w' := by
  have hu28 := Try.underlying28
  have HR0_1 := Aside0.mk hr0_1
  have HC0_1 := Aside0.mk hc0_1
  clear hr0_1 hc0_1
  have HB := Aside0.mk (Below.refl w.heap.size w)
  have H : (some (wrap64 (a0_2 * (l0_1.length : Int)))) = some r := h
  clear h
  obtain rfl := Option.some.inj H
  go_enter Try.func22, Try.ntmps22
  go_wp2_with (first | ((with_reducible refine gate_dst (N := 1) rfl ?_); refine box_event ?hg (N := 1) ?hd (cs := #[.int .i64 a0_0, .slice A0_1 l0_1.length c0_1, .int .i64 a0_2, .int .i64 a0_3]) (t := 28) ?hr ?_; (case hd => rfl); (case hg => rfl); (case hr => first | (go_simp; done) | (go_simp; rfl)); intro gb223 hg w2 hbox hb; have n0_ := Aside0.mk (below_step (by repeat (first | (with_reducible first | exact HB.out | apply below_alloc | apply pw_below_drewN | apply below_drew1) | exact HB.out)) hb); have n1_ := Aside0.mk (hbox); have n2_ := Aside0.mk ((by rw [hg]; exact (below_size (by repeat (first | (with_reducible first | exact HB.out | apply below_alloc | apply pw_below_drewN | apply below_drew1) | exact HB.out))) : w.heap.size ≤ gb223)); have n3_ := Aside0.mk ((by rw [hg]; exact (below_size (by repeat (first | (with_reducible first | exact HB.out | apply below_alloc | apply pw_below_drewN | apply below_drew1) | exact HB.out))) : w.heap.size ≤ gb223)); clear HB; have HB := n0_; have BK223 := n1_; have GW223 := n2_; have GE223 := n3_; clear n0_ n1_ n2_ n3_; clear hb hbox hg; have hcz3_0 : w2.cell? ⟨gb223, 0, none⟩ = some (.int .i64 a0_0) := (blk_cell BK223.out 0).trans rfl; have hcz3_1 : w2.cell? ⟨gb223, 1, none⟩ = some (.slice A0_1 l0_1.length c0_1) := (blk_cell BK223.out 1).trans rfl; have hcz3_2 : w2.cell? ⟨gb223, 2, none⟩ = some (.int .i64 a0_2) := (blk_cell BK223.out 2).trans rfl; have hcz3_3 : w2.cell? ⟨gb223, 3, none⟩ = some (.int .i64 a0_3) := (blk_cell BK223.out 3).trans rfl; have hfz3_0 := blk_frozen BK223.out 0; have hfz3_1 := blk_frozen BK223.out 1; have hfz3_2 := blk_frozen BK223.out 2; have hfz3_3 := blk_frozen BK223.out 3))
  go_ret
  exact ⟨by first | rfl | (simp [errW_none, errW_some] <;> rfl) | (simp [*, errW_none, errW_some] <;> rfl), by repeat (first | (with_reducible first | exact HB.out | apply below_alloc | apply pw_below_drewN | apply below_drew1 | refine below_set ?_ GE223.out) | exact HB.out)⟩

/-! ### tegularef21_Width: function 23 -/
def tegularef21_Width.f (a0_0 : Int) (l0_1 : List (List Int)) (a0_2 : Int) (a0_3 : Int) : Option (Int) := if 0 < (l0_1.length : Int) then (some ((rd_L1 l0_1 0).length : Int)) else (none)
set_option maxHeartbeats 8000000 in
set_option maxRecDepth 100000 in
theorem tegularef21_Width.calls (a0_0 : Int) (A0_1 : Option Addr) (c0_1 : Nat) (l0_1 : List (List Int)) (a0_2 : Int) (a0_3 : Int) (r : Int) (w : World) (hr0_1 : Kd.C (Kd.slice 3 (Kd.int .i64)) w A0_1 l0_1.length l0_1) (hc0_1 : l0_1.length ≤ c0_1) (h : tegularef21_Width.f a0_0 l0_1 a0_2 a0_3 = some r) :
    Calls Try.prog 23 #[.agg #[.int .i64 a0_0, .slice A0_1 l0_1.length c0_1, .int .i64 a0_2, .int .i64 a0_3]] w fun e w' => e = .returned (.int .i64 r) ∧ Below w.heap.size w w' := by
  have hu28 := Try.underlying28
  have HR0_1 := Aside0.mk hr0_1
  have HC0_1 := Aside0.mk hc0_1
  clear hr0_1 hc0_1
  have HB := Aside0.mk (Below.refl w.heap.size w)
  have H : (if 0 < (l0_1.length : Int) then (some ((rd_L1 l0_1 0).length : Int)) else (none)) = some r := h
  clear h
  by_cases c2 : 0 < (l0_1.length : Int)
  · rw [if_pos c2] at H
    have c2b0 : decide (0 < (l0_1.length : Int)) = true := decide_eq_true c2
    have c2b1 : decide (0 < l0_1.length) = true := decide_eq_true (by omega)
    clear c2
    obtain rfl := Option.some.inj H
    go_enter Try.func23, Try.ntmps23
    go_wp2_with (first | ((with_reducible refine gate_dst (N := 1) rfl ?_); refine box_event ?hg (N := 1) ?hd (cs := #[.int .i64 a0_0, .slice A0_1 l0_1.length c0_1, .int .i64 a0_2, .int .i64 a0_3]) (t := 28) ?hr ?_; (case hd => rfl); (case hg => rfl); (case hr => first | (go_simp; done) | (go_simp; rfl)); intro gb224 hg w3 hbox hb; have n0_ := Aside0.mk (below_step (by repeat (first | (with_reducible first | exact HB.out | apply below_alloc | apply pw_below_drewN | apply below_drew1) | exact HB.out)) hb); have n1_ := Aside0.mk (hbox); have n2_ := Aside0.mk ((by rw [hg]; exact (below_size (by repeat (first | (with_reducible first | exact HB.out | apply below_alloc | apply pw_below_drewN | apply below_drew1) | exact HB.out))) : w.heap.size ≤ gb224)); have n3_ := Aside0.mk ((by rw [hg]; exact (below_size (by repeat (first | (with_reducible first | exact HB.out | apply below_alloc | apply pw_below_drewN | apply below_drew1) | exact HB.out))) : w.heap.size ≤ gb224)); clear HB; have HB := n0_; have BK224 := n1_; have GW224 := n2_; have GE224 := n3_; clear n0_ n1_ n2_ n3_; clear hb hbox hg; have hcz4_0 : w3.cell? ⟨gb224, 0, none⟩ = some (.int .i64 a0_0) := (blk_cell BK224.out 0).trans rfl; have hcz4_1 : w3.cell? ⟨gb224, 1, none⟩ = some (.slice A0_1 l0_1.length c0_1) := (blk_cell BK224.out 1).trans rfl; have hcz4_2 : w3.cell? ⟨gb224, 2, none⟩ = some (.int .i64 a0_2) := (blk_cell BK224.out 2).trans rfl; have hcz4_3 : w3.cell? ⟨gb224, 3, none⟩ = some (.int .i64 a0_3) := (blk_cell BK224.out 3).trans rfl; have hfz4_0 := blk_frozen BK224.out 0; have hfz4_1 := blk_frozen BK224.out 1; have hfz4_2 := blk_frozen BK224.out 2; have hfz4_3 := blk_frozen BK224.out 3; have p225 : 0 ≤ (0 : Int) := (by omega); have q225 : 0 < (l0_1.length : Int) := of_decide_eq_true (by first | (with_reducible assumption) | assumption); obtain ⟨ad225, A225_0, c225_0, e225, hx225_0, hl225_0, hi225_0⟩ := at_L1 HR0_1.out 0 p225 q225; cases e225; have qi225 : (0 < l0_1.length) = True := eq_true (by omega); (try rw [show ((0 : Int)).toNat = 0 from rfl] at hx225_0); (try rw [Addr.add_zero'] at hx225_0); replace hx225_0 := (HB.out.cell (World.block_lt_of_cell? w _ hx225_0)).trans hx225_0; have HR225_0 := Aside0.mk hi225_0; have HC225_0 := Aside0.mk hl225_0; clear hi225_0 hl225_0; replace p225 := eq_true p225; replace q225 := eq_true q225))
    go_ret
    exact ⟨by first | rfl | (simp [errW_none, errW_some] <;> rfl) | (simp [*, errW_none, errW_some] <;> rfl), by repeat (first | (with_reducible first | exact HB.out | apply below_alloc | apply pw_below_drewN | apply below_drew1 | refine below_set ?_ GE224.out) | exact HB.out)⟩
  · rw [if_neg c2] at H
    exact absurd H (by simp)

/-! ### tegularef21_Is: function 16 -/
def tegularef21_Is.f (a0_0 : Int) (l0_1 : List (List Int)) (a0_2 : Int) (a0_3 : Int) (a1 : Int) (a2 : Int) : Option (Bool) := if a1 ≥ 0 then ((tegularef21_Groups.f a0_0 l0_1 a0_2 a0_3).bind fun t227 => (if a1 < t227 then (if a2 ≥ 0 then ((tegularef21_Width.f a0_0 l0_1 a0_2 a0_3).bind fun t228 => (some (decide (a2 < t228)))) else (some false)) else (some false))) else (some false)
set_option maxHeartbeats 8000000 in
set_option maxRecDepth 100000 in
theorem tegularef21_Is.calls (a0_0 : Int) (A0_1 : Option Addr) (c0_1 : Nat) (l0_1 : List (List Int)) (a0_2 : Int) (a0_3 : Int) (a1 : Int) (a2 : Int) (r : Bool) (w : World) (hr0_1 : Kd.C (Kd.slice 3 (Kd.int .i64)) w A0_1 l0_1.length l0_1) (hc0_1 : l0_1.length ≤ c0_1) (h : tegularef21_Is.f a0_0 l0_1 a0_2 a0_3 a1 a2 = some r) :
    Calls Try.prog 16 #[.agg #[.int .i64 a0_0, .slice A0_1 l0_1.length c0_1, .int .i64 a0_2, .int .i64 a0_3], .int .i64 a1, .int .i64 a2] w fun e w' => e = .returned (.bool r) ∧ Below w.heap.size w w' := by
  have hu28 := Try.underlying28
  have HR0_1 := Aside0.mk hr0_1
  have HC0_1 := Aside0.mk hc0_1
  clear hr0_1 hc0_1
  have HB := Aside0.mk (Below.refl w.heap.size w)
  have H : (if a1 ≥ 0 then ((tegularef21_Groups.f a0_0 l0_1 a0_2 a0_3).bind fun t227 => (if a1 < t227 then (if a2 ≥ 0 then ((tegularef21_Width.f a0_0 l0_1 a0_2 a0_3).bind fun t228 => (some (decide (a2 < t228)))) else (some false)) else (some false))) else (some false)) = some r := h
  clear h
  by_cases c4 : a1 ≥ 0
  · rw [if_pos c4] at H
    have c4b0 : decide (0 ≤ a1) = true := decide_eq_true c4
    clear c4
    replace H := Option.bind_eq_some_iff.mp H
    obtain ⟨t227, A50, H⟩ := H
    replace H : (if a1 < t227 then (if a2 ≥ 0 then ((tegularef21_Width.f a0_0 l0_1 a0_2 a0_3).bind fun t228 => (some (decide (a2 < t228)))) else (some false)) else (some false)) = some r := H
    have A5 := Aside0.mk A50
    clear A50
    by_cases c6 : a1 < t227
    · rw [if_pos c6] at H
      have c6b0 : decide (a1 < t227) = true := decide_eq_true c6
      clear c6
      by_cases c7 : a2 ≥ 0
      · rw [if_pos c7] at H
        have c7b0 : decide (0 ≤ a2) = true := decide_eq_true c7
        clear c7
        replace H := Option.bind_eq_some_iff.mp H
        obtain ⟨t228, A80, H⟩ := H
        replace H : (some (decide (a2 < t228))) = some r := H
        have A8 := Aside0.mk A80
        clear A80
        obtain rfl := Option.some.inj H
        go_enter Try.func16, Try.ntmps16
        go_wp2_with (first | ((with_reducible refine gate_dst (N := 3) rfl ?_); refine box_event ?hg (N := 3) ?hd (cs := #[.int .i64 a0_0, .slice A0_1 l0_1.length c0_1, .int .i64 a0_2, .int .i64 a0_3]) (t := 28) ?hr ?_; (case hd => rfl); (case hg => rfl); (case hr => first | (go_simp; done) | (go_simp; rfl)); intro gb226 hg w9 hbox hb; have n0_ := Aside0.mk (below_step (by repeat (first | (with_reducible first | exact HB.out | apply below_alloc | apply pw_below_drewN | apply below_drew1) | exact HB.out)) hb); have n1_ := Aside0.mk (hbox); have n2_ := Aside0.mk ((by rw [hg]; exact (below_size (by repeat (first | (with_reducible first | exact HB.out | apply below_alloc | apply pw_below_drewN | apply below_drew1) | exact HB.out))) : w.heap.size ≤ gb226)); have n3_ := Aside0.mk ((by rw [hg]; exact (below_size (by repeat (first | (with_reducible first | exact HB.out | apply below_alloc | apply pw_below_drewN | apply below_drew1) | exact HB.out))) : w.heap.size ≤ gb226)); clear HB; have HB := n0_; have BK226 := n1_; have GW226 := n2_; have GE226 := n3_; clear n0_ n1_ n2_ n3_; clear hb hbox hg; have hcz10_0 : w9.cell? ⟨gb226, 0, none⟩ = some (.int .i64 a0_0) := (blk_cell BK226.out 0).trans rfl; have hcz10_1 : w9.cell? ⟨gb226, 1, none⟩ = some (.slice A0_1 l0_1.length c0_1) := (blk_cell BK226.out 1).trans rfl; have hcz10_2 : w9.cell? ⟨gb226, 2, none⟩ = some (.int .i64 a0_2) := (blk_cell BK226.out 2).trans rfl; have hcz10_3 : w9.cell? ⟨gb226, 3, none⟩ = some (.int .i64 a0_3) := (blk_cell BK226.out 3).trans rfl; have hfz10_0 := blk_frozen BK226.out 0; have hfz10_1 := blk_frozen BK226.out 1; have hfz10_2 := blk_frozen BK226.out 2; have hfz10_3 := blk_frozen BK226.out 3) | (go_at_call 22; (with_reducible refine (tegularef21_Groups.calls a0_0 _ _ l0_1 a0_2 a0_3 t227 _ ?side1 ?side2 A5.out).mono ?_); (case side1 => repeat (first | exact (Kd.C_below HR0_1.out HB.out) | (with_reducible refine Kd.C_alloc ?_ _) | (with_reducible refine Kd.C_drewN ?_ _) | (with_reducible refine Kd.C_drew ?_))); (case side2 => exact HC0_1.out); rintro e w11 ⟨rfl, hb⟩; have n0_ := Aside0.mk (blk_below (g := gb226) (o := .cells #[.int .i64 a0_0, .slice A0_1 l0_1.length c0_1, .int .i64 a0_2, .int .i64 a0_3] 28 (0, 0)) (by (with_reducible repeat (first | refine blk_drewN ?_ _ | refine blk_drew ?_ | refine blk_alloc ?_ _)); exact BK226.out) hb); have n1_ := Aside0.mk (below_step (by repeat (first | (with_reducible first | exact HB.out | apply below_alloc | apply pw_below_drewN | apply below_drew1 | refine below_set ?_ GE226.out) | exact HB.out)) hb); clear BK226; clear HB; have BK226 := n0_; have HB := n1_; clear n0_ n1_; (try clear hb); (try clear hb2); (try clear hk); (try clear hi); have hcz12_0 : w11.cell? ⟨gb226, 0, none⟩ = some (.int .i64 a0_0) := (blk_cell BK226.out 0).trans rfl; have hcz12_1 : w11.cell? ⟨gb226, 1, none⟩ = some (.slice A0_1 l0_1.length c0_1) := (blk_cell BK226.out 1).trans rfl; have hcz12_2 : w11.cell? ⟨gb226, 2, none⟩ = some (.int .i64 a0_2) := (blk_cell BK226.out 2).trans rfl; have hcz12_3 : w11.cell? ⟨gb226, 3, none⟩ = some (.int .i64 a0_3) := (blk_cell BK226.out 3).trans rfl; have hfz12_0 := blk_frozen BK226.out 0; have hfz12_1 := blk_frozen BK226.out 1; have hfz12_2 := blk_frozen BK226.out 2; have hfz12_3 := blk_frozen BK226.out 3) | (go_at_call 23; (with_reducible refine (tegularef21_Width.calls a0_0 _ _ l0_1 a0_2 a0_3 t228 _ ?side1 ?side2 A8.out).mono ?_); (case side1 => repeat (first | exact (Kd.C_below HR0_1.out HB.out) | (with_reducible refine Kd.C_alloc ?_ _) | (with_reducible refine Kd.C_drewN ?_ _) | (with_reducible refine Kd.C_drew ?_))); (case side2 => exact HC0_1.out); rintro e w13 ⟨rfl, hb⟩; have n0_ := Aside0.mk (blk_below (g := gb226) (o := .cells #[.int .i64 a0_0, .slice A0_1 l0_1.length c0_1, .int .i64 a0_2, .int .i64 a0_3] 28 (0, 0)) (by (with_reducible repeat (first | refine blk_drewN ?_ _ | refine blk_drew ?_ | refine blk_alloc ?_ _)); exact BK226.out) hb); have n1_ := Aside0.mk (below_step (by repeat (first | (with_reducible first | exact HB.out | apply below_alloc | apply pw_below_drewN | apply below_drew1 | refine below_set ?_ GE226.out) | exact HB.out)) hb); clear BK226; clear HB; have BK226 := n0_; have HB := n1_; clear n0_ n1_; (try clear hb); (try clear hb2); (try clear hk); (try clear hi)))
        go_ret
        exact ⟨by first | rfl | (simp [errW_none, errW_some] <;> rfl) | (simp [*, errW_none, errW_some] <;> rfl), by repeat (first | (with_reducible first | exact HB.out | apply below_alloc | apply pw_below_drewN | apply below_drew1 | refine below_set ?_ GE226.out) | exact HB.out)⟩
      · rw [if_neg c7] at H
        have c7b0 : decide (0 ≤ a2) = false := decide_eq_false c7
        clear c7
        obtain rfl := Option.some.inj H
        go_enter Try.func16, Try.ntmps16
        go_wp2_with (first | ((with_reducible refine gate_dst (N := 3) rfl ?_); refine box_event ?hg (N := 3) ?hd (cs := #[.int .i64 a0_0, .slice A0_1 l0_1.length c0_1, .int .i64 a0_2, .int .i64 a0_3]) (t := 28) ?hr ?_; (case hd => rfl); (case hg => rfl); (case hr => first | (go_simp; done) | (go_simp; rfl)); intro gb226 hg w14 hbox hb; have n0_ := Aside0.mk (below_step (by repeat (first | (with_reducible first | exact HB.out | apply below_alloc | apply pw_below_drewN | apply below_drew1) | exact HB.out)) hb); have n1_ := Aside0.mk (hbox); have n2_ := Aside0.mk ((by rw [hg]; exact (below_size (by repeat (first | (with_reducible first | exact HB.out | apply below_alloc | apply pw_below_drewN | apply below_drew1) | exact HB.out))) : w.heap.size ≤ gb226)); have n3_ := Aside0.mk ((by rw [hg]; exact (below_size (by repeat (first | (with_reducible first | exact HB.out | apply below_alloc | apply pw_below_drewN | apply below_drew1) | exact HB.out))) : w.heap.size ≤ gb226)); clear HB; have HB := n0_; have BK226 := n1_; have GW226 := n2_; have GE226 := n3_; clear n0_ n1_ n2_ n3_; clear hb hbox hg; have hcz15_0 : w14.cell? ⟨gb226, 0, none⟩ = some (.int .i64 a0_0) := (blk_cell BK226.out 0).trans rfl; have hcz15_1 : w14.cell? ⟨gb226, 1, none⟩ = some (.slice A0_1 l0_1.length c0_1) := (blk_cell BK226.out 1).trans rfl; have hcz15_2 : w14.cell? ⟨gb226, 2, none⟩ = some (.int .i64 a0_2) := (blk_cell BK226.out 2).trans rfl; have hcz15_3 : w14.cell? ⟨gb226, 3, none⟩ = some (.int .i64 a0_3) := (blk_cell BK226.out 3).trans rfl; have hfz15_0 := blk_frozen BK226.out 0; have hfz15_1 := blk_frozen BK226.out 1; have hfz15_2 := blk_frozen BK226.out 2; have hfz15_3 := blk_frozen BK226.out 3) | (go_at_call 22; (with_reducible refine (tegularef21_Groups.calls a0_0 _ _ l0_1 a0_2 a0_3 t227 _ ?side1 ?side2 A5.out).mono ?_); (case side1 => repeat (first | exact (Kd.C_below HR0_1.out HB.out) | (with_reducible refine Kd.C_alloc ?_ _) | (with_reducible refine Kd.C_drewN ?_ _) | (with_reducible refine Kd.C_drew ?_))); (case side2 => exact HC0_1.out); rintro e w16 ⟨rfl, hb⟩; have n0_ := Aside0.mk (blk_below (g := gb226) (o := .cells #[.int .i64 a0_0, .slice A0_1 l0_1.length c0_1, .int .i64 a0_2, .int .i64 a0_3] 28 (0, 0)) (by (with_reducible repeat (first | refine blk_drewN ?_ _ | refine blk_drew ?_ | refine blk_alloc ?_ _)); exact BK226.out) hb); have n1_ := Aside0.mk (below_step (by repeat (first | (with_reducible first | exact HB.out | apply below_alloc | apply pw_below_drewN | apply below_drew1 | refine below_set ?_ GE226.out) | exact HB.out)) hb); clear BK226; clear HB; have BK226 := n0_; have HB := n1_; clear n0_ n1_; (try clear hb); (try clear hb2); (try clear hk); (try clear hi)))
        go_ret
        exact ⟨by first | rfl | (simp [errW_none, errW_some] <;> rfl) | (simp [*, errW_none, errW_some] <;> rfl), by repeat (first | (with_reducible first | exact HB.out | apply below_alloc | apply pw_below_drewN | apply below_drew1 | refine below_set ?_ GE226.out) | exact HB.out)⟩
    · rw [if_neg c6] at H
      have c6b0 : decide (a1 < t227) = false := decide_eq_false c6
      clear c6
      obtain rfl := Option.some.inj H
      go_enter Try.func16, Try.ntmps16
      go_wp2_with (first | ((with_reducible refine gate_dst (N := 3) rfl ?_); refine box_event ?hg (N := 3) ?hd (cs := #[.int .i64 a0_0, .slice A0_1 l0_1.length c0_1, .int .i64 a0_2, .int .i64 a0_3]) (t := 28) ?hr ?_; (case hd => rfl); (case hg => rfl); (case hr => first | (go_simp; done) | (go_simp; rfl)); intro gb226 hg w17 hbox hb; have n0_ := Aside0.mk (below_step (by repeat (first | (with_reducible first | exact HB.out | apply below_alloc | apply pw_below_drewN | apply below_drew1) | exact HB.out)) hb); have n1_ := Aside0.mk (hbox); have n2_ := Aside0.mk ((by rw [hg]; exact (below_size (by repeat (first | (with_reducible first | exact HB.out | apply below_alloc | apply pw_below_drewN | apply below_drew1) | exact HB.out))) : w.heap.size ≤ gb226)); have n3_ := Aside0.mk ((by rw [hg]; exact (below_size (by repeat (first | (with_reducible first | exact HB.out | apply below_alloc | apply pw_below_drewN | apply below_drew1) | exact HB.out))) : w.heap.size ≤ gb226)); clear HB; have HB := n0_; have BK226 := n1_; have GW226 := n2_; have GE226 := n3_; clear n0_ n1_ n2_ n3_; clear hb hbox hg; have hcz18_0 : w17.cell? ⟨gb226, 0, none⟩ = some (.int .i64 a0_0) := (blk_cell BK226.out 0).trans rfl; have hcz18_1 : w17.cell? ⟨gb226, 1, none⟩ = some (.slice A0_1 l0_1.length c0_1) := (blk_cell BK226.out 1).trans rfl; have hcz18_2 : w17.cell? ⟨gb226, 2, none⟩ = some (.int .i64 a0_2) := (blk_cell BK226.out 2).trans rfl; have hcz18_3 : w17.cell? ⟨gb226, 3, none⟩ = some (.int .i64 a0_3) := (blk_cell BK226.out 3).trans rfl; have hfz18_0 := blk_frozen BK226.out 0; have hfz18_1 := blk_frozen BK226.out 1; have hfz18_2 := blk_frozen BK226.out 2; have hfz18_3 := blk_frozen BK226.out 3) | (go_at_call 22; (with_reducible refine (tegularef21_Groups.calls a0_0 _ _ l0_1 a0_2 a0_3 t227 _ ?side1 ?side2 A5.out).mono ?_); (case side1 => repeat (first | exact (Kd.C_below HR0_1.out HB.out) | (with_reducible refine Kd.C_alloc ?_ _) | (with_reducible refine Kd.C_drewN ?_ _) | (with_reducible refine Kd.C_drew ?_))); (case side2 => exact HC0_1.out); rintro e w19 ⟨rfl, hb⟩; have n0_ := Aside0.mk (blk_below (g := gb226) (o := .cells #[.int .i64 a0_0, .slice A0_1 l0_1.length c0_1, .int .i64 a0_2, .int .i64 a0_3] 28 (0, 0)) (by (with_reducible repeat (first | refine blk_drewN ?_ _ | refine blk_drew ?_ | refine blk_alloc ?_ _)); exact BK226.out) hb); have n1_ := Aside0.mk (below_step (by repeat (first | (with_reducible first | exact HB.out | apply below_alloc | apply pw_below_drewN | apply below_drew1 | refine below_set ?_ GE226.out) | exact HB.out)) hb); clear BK226; clear HB; have BK226 := n0_; have HB := n1_; clear n0_ n1_; (try clear hb); (try clear hb2); (try clear hk); (try clear hi)))
      go_ret
      exact ⟨by first | rfl | (simp [errW_none, errW_some] <;> rfl) | (simp [*, errW_none, errW_some] <;> rfl), by repeat (first | (with_reducible first | exact HB.out | apply below_alloc | apply pw_below_drewN | apply below_drew1 | refine below_set ?_ GE226.out) | exact HB.out)⟩
  · rw [if_neg c4] at H
    have c4b0 : decide (0 ≤ a1) = false := decide_eq_false c4
    clear c4
    obtain rfl := Option.some.inj H
    go_enter Try.func16, Try.ntmps16
    go_wp2_with (first | ((with_reducible refine gate_dst (N := 3) rfl ?_); refine box_event ?hg (N := 3) ?hd (cs := #[.int .i64 a0_0, .slice A0_1 l0_1.length c0_1, .int .i64 a0_2, .int .i64 a0_3]) (t := 28) ?hr ?_; (case hd => rfl); (case hg => rfl); (case hr => first | (go_simp; done) | (go_simp; rfl)); intro gb226 hg w20 hbox hb; have n0_ := Aside0.mk (below_step (by repeat (first | (with_reducible first | exact HB.out | apply below_alloc | apply pw_below_drewN | apply below_drew1) | exact HB.out)) hb); have n1_ := Aside0.mk (hbox); have n2_ := Aside0.mk ((by rw [hg]; exact (below_size (by repeat (first | (with_reducible first | exact HB.out | apply below_alloc | apply pw_below_drewN | apply below_drew1) | exact HB.out))) : w.heap.size ≤ gb226)); have n3_ := Aside0.mk ((by rw [hg]; exact (below_size (by repeat (first | (with_reducible first | exact HB.out | apply below_alloc | apply pw_below_drewN | apply below_drew1) | exact HB.out))) : w.heap.size ≤ gb226)); clear HB; have HB := n0_; have BK226 := n1_; have GW226 := n2_; have GE226 := n3_; clear n0_ n1_ n2_ n3_; clear hb hbox hg))
    go_ret
    exact ⟨by first | rfl | (simp [errW_none, errW_some] <;> rfl) | (simp [*, errW_none, errW_some] <;> rfl), by repeat (first | (with_reducible first | exact HB.out | apply below_alloc | apply pw_below_drewN | apply below_drew1 | refine below_set ?_ GE226.out) | exact HB.out)⟩

/-! ### tegularef06_Has: function 42 -/
def tegularef06_Has.l0 : Nat → List Int → Int → Int → Option (Bool)
  | 0, _, _, _ => none
  | k + 1, x0, x1, x5 => if x5 < (x0.length : Int) then (if 0 ≤ x5 then (if (rd x0 x5) = x1 then (some true) else (tegularef06_Has.l0 k x0 x1 (wrap64 (x5 + 1)))) else (none)) else (some false)
def tegularef06_Has.f (k : Nat) (l0 : List Int) (a1 : Int) : Option (Bool) := tegularef06_Has.l0 k l0 a1 0
theorem tegularef06_Has.mono_l : ∀ k, (∀ y0 y1 y2, LeO (tegularef06_Has.l0 k y0 y1 y2) (tegularef06_Has.l0 (k + 1) y0 y1 y2))
  | 0 => fun _ _ _ r h => by simp [tegularef06_Has.l0] at h
  | k + 1 => by
    have ih0 := tegularef06_Has.mono_l k
    · intro y0 y1 y2
      unfold tegularef06_Has.l0
      repeat' first
      | (with_reducible exact ih0 _ _ _)
      | (with_reducible exact LeO.refl _)
      | (with_reducible exact LeO.none _)
      | (with_reducible refine LeO.ite ?_ ?_)
      | (with_reducible refine LeO.bind ?_ (fun _ => ?_))
      | exact ih0 _ _ _
      | exact LeO.none _
      | refine LeO.ite ?_ ?_
      | refine LeO.bind ?_ (fun _ => ?_)
theorem tegularef06_Has.mono : ∀ a0 a1 k, LeO (tegularef06_Has.f k a0 a1) (tegularef06_Has.f (k + 1) a0 a1) := by
  intro a0 a1 k
  have ih0 := tegularef06_Has.mono_l k
  unfold tegularef06_Has.f
  repeat' first
      | (with_reducible exact ih0 _ _ _)
      | (with_reducible exact LeO.refl _)
      | (with_reducible exact LeO.none _)
      | (with_reducible refine LeO.ite ?_ ?_)
      | (with_reducible refine LeO.bind ?_ (fun _ => ?_))
      | exact ih0 _ _ _
      | exact LeO.none _
      | refine LeO.ite ?_ ?_
      | refine LeO.bind ?_ (fun _ => ?_)
set_option maxHeartbeats 8000000 in
set_option maxRecDepth 100000 in
theorem tegularef06_Has.calls (k : Nat) (A0 : Option Addr) (c0 : Nat) (l0 : List Int) (a1 : Int) (r : Bool) (w : World) (hr0 : Kd.C (Kd.int .i64) w A0 l0.length l0) (hc0 : l0.length ≤ c0) (h : tegularef06_Has.f k l0 a1 = some r) :
    Calls Try.prog 42 #[.slice A0 l0.length c0, .int .i64 a1] w fun e w' => e = .returned (.bool r) ∧ Drawn0 w w' := by
  have HR0 := Aside0.mk hr0
  have HC0 := Aside0.mk hc0
  clear hr0 hc0
  have H : (tegularef06_Has.l0 k l0 a1 0) = some r := h
  clear h
  have H' := Aside0.mk H
  clear H
  go_enter Try.func42, Try.ntmps42
  go_wp2
  go_loopg [5] k (fun kq v5 w' => ∃ (x5_1 : Int), v5 = .int .i64 x5_1 ∧ Aside0 (tegularef06_Has.l0 kq l0 a1 x5_1 = some r) ∧ Aside0 (kq ≤ k) ∧ Drawn0 w w')
  case atStart => exact ⟨(0), (by first | rfl | (simp; done) | (simp [*]; done)), H', ⟨Nat.le_refl _⟩, by repeat (first | exact Drawn0.refl _ | apply Drawn0.step)⟩
  case round =>
    clear H'
    try clear p2
    obtain ⟨x5_1, rfl, HA, HK1, ⟨m1, rfl⟩⟩ := hrel
    cases gk with
    | zero => exact absurd HA.out (by simp [tegularef06_Has.l0])
    | succ k1 =>
      have H := HA.out
      clear HA
      simp only [tegularef06_Has.l0] at H
      by_cases c3 : x5_1 < (l0.length : Int)
      · rw [if_pos c3] at H
        have c3b0 : decide (x5_1 < (l0.length : Int)) = true := decide_eq_true c3
        clear c3
        by_cases c4 : 0 ≤ x5_1
        · rw [if_pos c4] at H
          have c4b0 : decide (0 ≤ x5_1) = true := decide_eq_true c4
          clear c4
          by_cases c5 : (rd l0 x5_1) = a1
          · rw [if_pos c5] at H
            have c5b0 : ((rd l0 x5_1) == a1) = true := beq_iff_eq.mpr c5
            have c5b1 : ((rd l0 x5_1) != a1) = false := bne_eq_false_iff_eq.mpr c5
            clear c5
            obtain rfl := Option.some.inj H
            have p229 : 0 ≤ (x5_1 : Int) := of_decide_eq_true (by first | (with_reducible assumption) | assumption)
            have q229 : x5_1 < (l0.length : Int) := of_decide_eq_true (by first | (with_reducible assumption) | assumption)
            obtain ⟨ad229, e229, hx229_0⟩ := Kd.at_int HR0.out x5_1 p229 q229
            cases e229
            replace p229 := eq_true p229
            replace q229 := eq_true q229
            go_wp2
            go_ret
            exact ⟨by first | rfl | (simp; done) | (simp [*]; done), by repeat (first | exact Drawn0.refl _ | apply Drawn0.step)⟩
          · rw [if_neg c5] at H
            have c5b0 : ((rd l0 x5_1) == a1) = false := beq_eq_false_iff_ne.mpr c5
            have c5b1 : ((rd l0 x5_1) != a1) = true := bne_iff_ne.mpr c5
            have H' := Aside0.mk H
            clear H
            have p229 : 0 ≤ (x5_1 : Int) := of_decide_eq_true (by first | (with_reducible assumption) | assumption)
            have q229 : x5_1 < (l0.length : Int) := of_decide_eq_true (by first | (with_reducible assumption) | assumption)
            obtain ⟨ad229, e229, hx229_0⟩ := Kd.at_int HR0.out x5_1 p229 q229
            cases e229
            replace p229 := eq_true p229
            replace q229 := eq_true q229
            go_wp2
            go_roundg k1
            case measure => have := HK1.out; omega
            case rel => exact ⟨(wrap64 (x5_1 + 1)), (by first | rfl | (simp; done) | (simp [*]; done)), H', ⟨by have := HK1.out; omega⟩, by repeat (first | exact Drawn0.refl _ | apply Drawn0.step)⟩
        · rw [if_neg c4] at H
          exact absurd H (by simp)
      · rw [if_neg c3] at H
        have c3b0 : decide (x5_1 < (l0.length : Int)) = false := decide_eq_false c3
        clear c3
        obtain rfl := Option.some.inj H
        go_wp2
        go_ret
        exact ⟨by first | rfl | (simp; done) | (simp [*]; done), by repeat (first | exact Drawn0.refl _ | apply Drawn0.step)⟩

end Go.Proofs.Ytebnladkogkpfaa.Q
