-- Written by a program of this session (wip/tools/drv.py) for this claim: what the Go functions do, as Lean functions, and the walks.
import Derived.Test.YtebnladkogkpfaaQ0
import Derived.Test.YtebnladkogkpfaaQ15
import Derived.Test.YtebnladkogkpfaaQ19
import Derived.Test.YtebnladkogkpfaaQ32
namespace Go.Proofs.Ytebnladkogkpfaa.Q
open Go.RowKit Go.Proofs.YtebnladkogkpfaaW.PrintWords Go.Proofs.YtebnladkogkpfaaW.PrintLast Go.Proofs.YtebnladkogkpfaaW.PrintMore
attribute [local go_sem] max2_int min2_int max_two min_two max_three min_three max_four min_four   -- for this text's walks alone
set_option linter.unusedVariables false
set_option linter.unusedSimpArgs false

/-! ### tegulalaw21_LayoutSpread: function 10 -/
mutual
def tegulalaw21_LayoutSpread.j0 : Nat → Int → Int → List (List Int) → Int → Int → Option (Bool)
  | 0, _, _, _, _, _ => none
  | k + 1, x1, x405000, x405001, x405002, x405003 => if x405000 = 0 then (none) else ((layout_OnDisk.f x405000 x405001 x405002 x405003 (Int.tmod (wrap64 (x1)) x405000)).bind fun bt406 => ((tegularef21_Width.f x405000 x405001 x405002 x405003).bind fun t410 => (if 0 ≤ t410 then (if (t410 : Int).toNat ≤ 35184372088832 then (tegulalaw21_LayoutSpread.l0 k bt406.1 bt406.2 (List.replicate (t410 : Int).toNat 0) 0) else (none)) else (none))))
def tegulalaw21_LayoutSpread.l0 : Nat → List (S52) → Int → List Int → Int → Option (Bool)
  | 0, _, _, _, _ => none
  | k + 1, x8, x9, x10, x11 => if x11 < (x8.length : Int) then (if 0 ≤ x11 then (if ((rd_T52 x8 x11).f1) < 0 then (some false) else (if ((rd_T52 x8 x11).f1) ≥ (x10.length : Int) then (some false) else (if 0 ≤ ((rd_T52 x8 x11).f1) then (if ((rd_T52 x8 x11).f1) < (x10.length : Int) then (tegulalaw21_LayoutSpread.l0 k x8 x9 (x10.set (((rd_T52 x8 x11).f1) : Int).toNat (wrap64 ((rd x10 ((rd_T52 x8 x11).f1)) + 1))) (wrap64 (x11 + 1))) else (none)) else (none)))) else (none)) else (tegulalaw21_LayoutSpread.l1 k x8 x9 x10 0)
def tegulalaw21_LayoutSpread.l1 : Nat → List (S52) → Int → List Int → Int → Option (Bool)
  | 0, _, _, _, _ => none
  | k + 1, x8, x9, x10, x12 => if x12 < (x10.length : Int) then (if 0 ≤ x12 then (if (wrap64 ((rd x10 x12) * (x10.length : Int))) = (x8.length : Int) then (tegulalaw21_LayoutSpread.l1 k x8 x9 x10 (wrap64 (x12 + 1))) else (some false)) else (none)) else (if x9 = 0 then (some (decide ((x8.length : Int) > 0))) else (some false))
end
def tegulalaw21_LayoutSpread.f (k : Nat) (a0 : Int) (a1 : Int) (a2 : Bool) : Option (Bool) := (tegulalaw21_awake.f).bind fun t397 => (if t397 = true then ((tegularef21_Small.f k a0).bind fun bt398 => ((tegularef21_Width.f bt398.1 bt398.2.1 bt398.2.2.1 bt398.2.2.2).bind fun t405 => (if a2 = true then (tegulalaw21_LayoutSpread.j0 k a1 bt398.1 bt398.2.1 (wrap64 (2 * t405)) bt398.2.2.2) else (tegulalaw21_LayoutSpread.j0 k a1 bt398.1 bt398.2.1 t405 bt398.2.2.2)))) else (some false))
theorem tegulalaw21_LayoutSpread.mono_l : ∀ k, (∀ y0 y1 y2 y3 y4, LeO (tegulalaw21_LayoutSpread.j0 k y0 y1 y2 y3 y4) (tegulalaw21_LayoutSpread.j0 (k + 1) y0 y1 y2 y3 y4)) ∧ (∀ y0 y1 y2 y3, LeO (tegulalaw21_LayoutSpread.l0 k y0 y1 y2 y3) (tegulalaw21_LayoutSpread.l0 (k + 1) y0 y1 y2 y3)) ∧ (∀ y0 y1 y2 y3, LeO (tegulalaw21_LayoutSpread.l1 k y0 y1 y2 y3) (tegulalaw21_LayoutSpread.l1 (k + 1) y0 y1 y2 y3))
  | 0 => ⟨fun _ _ _ _ _ r h => by simp [tegulalaw21_LayoutSpread.j0] at h, fun _ _ _ _ r h => by simp [tegulalaw21_LayoutSpread.l0] at h, fun _ _ _ _ r h => by simp [tegulalaw21_LayoutSpread.l1] at h⟩
  | k + 1 => by
    obtain ⟨ih0, ih1, ih2⟩ := tegulalaw21_LayoutSpread.mono_l k
    refine ⟨?_, ?_, ?_⟩
    · intro y0 y1 y2 y3 y4
      unfold tegulalaw21_LayoutSpread.j0
      repeat' first
      | (with_reducible exact ih0 _ _ _ _ _)
      | (with_reducible exact ih1 _ _ _ _)
      | (with_reducible exact ih2 _ _ _ _)
      | (with_reducible exact tegularef21_Small.mono _ _)
      | (with_reducible exact LeO.refl _)
      | (with_reducible exact LeO.none _)
      | (with_reducible refine LeO.ite ?_ ?_)
      | (with_reducible refine LeO.bind ?_ (fun _ => ?_))
      | exact ih0 _ _ _ _ _
      | exact ih1 _ _ _ _
      | exact ih2 _ _ _ _
      | exact tegularef21_Small.mono _ _
      | exact LeO.none _
      | refine LeO.ite ?_ ?_
      | refine LeO.bind ?_ (fun _ => ?_)
    · intro y0 y1 y2 y3
      unfold tegulalaw21_LayoutSpread.l0
      repeat' first
      | (with_reducible exact ih0 _ _ _ _ _)
      | (with_reducible exact ih1 _ _ _ _)
      | (with_reducible exact ih2 _ _ _ _)
      | (with_reducible exact tegularef21_Small.mono _ _)
      | (with_reducible exact LeO.refl _)
      | (with_reducible exact LeO.none _)
      | (with_reducible refine LeO.ite ?_ ?_)
      | (with_reducible refine LeO.bind ?_ (fun _ => ?_))
      | exact ih0 _ _ _ _ _
      | exact ih1 _ _ _ _
      | exact ih2 _ _ _ _
      | exact tegularef21_Small.mono _ _
      | exact LeO.none _
      | refine LeO.ite ?_ ?_
      | refine LeO.bind ?_ (fun _ => ?_)
    · intro y0 y1 y2 y3
      unfold tegulalaw21_LayoutSpread.l1
      repeat' first
      | (with_reducible exact ih0 _ _ _ _ _)
      | (with_reducible exact ih1 _ _ _ _)
      | (with_reducible exact ih2 _ _ _ _)
      | (with_reducible exact tegularef21_Small.mono _ _)
      | (with_reducible exact LeO.refl _)
      | (with_reducible exact LeO.none _)
      | (with_reducible refine LeO.ite ?_ ?_)
      | (with_reducible refine LeO.bind ?_ (fun _ => ?_))
      | exact ih0 _ _ _ _ _
      | exact ih1 _ _ _ _
      | exact ih2 _ _ _ _
      | exact tegularef21_Small.mono _ _
      | exact LeO.none _
      | refine LeO.ite ?_ ?_
      | refine LeO.bind ?_ (fun _ => ?_)
theorem tegulalaw21_LayoutSpread.mono : ∀ a0 a1 a2 k, LeO (tegulalaw21_LayoutSpread.f k a0 a1 a2) (tegulalaw21_LayoutSpread.f (k + 1) a0 a1 a2) := by
  intro a0 a1 a2 k
  obtain ⟨ih0, ih1, ih2⟩ := tegulalaw21_LayoutSpread.mono_l k
  unfold tegulalaw21_LayoutSpread.f
  repeat' first
      | (with_reducible exact ih0 _ _ _ _ _)
      | (with_reducible exact ih1 _ _ _ _)
      | (with_reducible exact ih2 _ _ _ _)
      | (with_reducible exact tegularef21_Small.mono _ _)
      | (with_reducible exact LeO.refl _)
      | (with_reducible exact LeO.none _)
      | (with_reducible refine LeO.ite ?_ ?_)
      | (with_reducible refine LeO.bind ?_ (fun _ => ?_))
      | exact ih0 _ _ _ _ _
      | exact ih1 _ _ _ _
      | exact ih2 _ _ _ _
      | exact tegularef21_Small.mono _ _
      | exact LeO.none _
      | refine LeO.ite ?_ ?_
      | refine LeO.bind ?_ (fun _ => ?_)
def tegulalaw21_LayoutSpread.T7 : Bool × List (List Nat × List Nat) := (true, [([], []), ([], []), ([1], [1]), ([], []), ([3], [3]), ([4], [4]), ([2, 5], [2, 5]), ([0, 6], [0, 6]), ([7], [7]), ([8], [8]), ([8], [8]), ([9, 7, 0, 1, 2, 3, 4, 5, 6, 7, 8, 9], [9]), ([10, 11, 0, 1, 2, 3, 4, 5, 6, 7, 8, 9, 10, 11], [10])])
def tegulalaw21_LayoutSpread.B7 : List Nat := [0, 0, 2, 0, 8, 24, 62, 127, 255, 511, 511, 1023, 4095]
theorem tegulalaw21_LayoutSpread.tab7 : rtab .any (opsOf Try.f10 7) = tegulalaw21_LayoutSpread.T7 := by kernel_rfl
theorem tegulalaw21_LayoutSpread.bits7 : waitsOk tegulalaw21_LayoutSpread.T7.2 tegulalaw21_LayoutSpread.B7 = true := by kernel_rfl
set_option maxHeartbeats 8000000 in
set_option maxRecDepth 100000 in
theorem tegulalaw21_LayoutSpread.calls (k : Nat) (a0 : Int) (a1 : Int) (a2 : Bool) (r : Bool) (w : World) (h : tegulalaw21_LayoutSpread.f k a0 a1 a2 = some r) :
    Calls Try.prog 10 #[.int .u16 a0, .int .u8 a1, .bool a2] w fun e w' => e = .returned (.bool r) ∧ Below w.heap.size w w' := by
  have hu28 := Try.underlying28
  have HB := Aside0.mk (Below.refl w.heap.size w)
  have H : ((tegulalaw21_awake.f).bind fun t397 => (if t397 = true then ((tegularef21_Small.f k a0).bind fun bt398 => ((tegularef21_Width.f bt398.1 bt398.2.1 bt398.2.2.1 bt398.2.2.2).bind fun t405 => (if a2 = true then (tegulalaw21_LayoutSpread.j0 k a1 bt398.1 bt398.2.1 (wrap64 (2 * t405)) bt398.2.2.2) else (tegulalaw21_LayoutSpread.j0 k a1 bt398.1 bt398.2.1 t405 bt398.2.2.2)))) else (some false))) = some r := h
  clear h
  replace H := Option.bind_eq_some_iff.mp H
  obtain ⟨t397, A40, H⟩ := H
  replace H : (if t397 = true then ((tegularef21_Small.f k a0).bind fun bt398 => ((tegularef21_Width.f bt398.1 bt398.2.1 bt398.2.2.1 bt398.2.2.2).bind fun t405 => (if a2 = true then (tegulalaw21_LayoutSpread.j0 k a1 bt398.1 bt398.2.1 (wrap64 (2 * t405)) bt398.2.2.2) else (tegulalaw21_LayoutSpread.j0 k a1 bt398.1 bt398.2.1 t405 bt398.2.2.2)))) else (some false)) = some r := H
  have A4 := Aside0.mk A40
  clear A40
  by_cases c5 : t397 = true
  · subst c5
    have H1 : ((tegularef21_Small.f k a0).bind fun bt398 => ((tegularef21_Width.f bt398.1 bt398.2.1 bt398.2.2.1 bt398.2.2.2).bind fun t405 => (if a2 = true then (tegulalaw21_LayoutSpread.j0 k a1 bt398.1 bt398.2.1 (wrap64 (2 * t405)) bt398.2.2.2) else (tegulalaw21_LayoutSpread.j0 k a1 bt398.1 bt398.2.1 t405 bt398.2.2.2)))) = some r := by rw [if_pos rfl] at H; exact H
    clear H
    have H := H1
    clear H1
    replace H := Option.bind_eq_some_iff.mp H
    obtain ⟨⟨t398, t399, t402, t403⟩, A60, H⟩ := H
    replace H : ((tegularef21_Width.f t398 t399 t402 t403).bind fun t405 => (if a2 = true then (tegulalaw21_LayoutSpread.j0 k a1 t398 t399 (wrap64 (2 * t405)) t403) else (tegulalaw21_LayoutSpread.j0 k a1 t398 t399 t405 t403))) = some r := H
    have A6 := Aside0.mk A60
    clear A60
    replace H := Option.bind_eq_some_iff.mp H
    obtain ⟨t405, A70, H⟩ := H
    replace H : (if a2 = true then (tegulalaw21_LayoutSpread.j0 k a1 t398 t399 (wrap64 (2 * t405)) t403) else (tegulalaw21_LayoutSpread.j0 k a1 t398 t399 t405 t403)) = some r := H
    have A7 := Aside0.mk A70
    clear A70
    have HC8 := Aside0.mk H
    clear H
    go_enter Try.func10, Try.ntmps10
    go_upto_if 20 with (first | ((with_reducible refine gate_callee (f := 13) rfl ?_); refine goesL_ (some 13) rfl rfl Try.func13 (by kernel_rfl) rfl #[] rfl (by (try simp only [List.map_toArray, List.map_cons, List.map_nil]); first | done | rfl | (simp only [List.length_drop, List.length_take]; rfl)) ?_; (with_reducible refine (tegulalaw21_awake.calls  true _ A4.out).mono ?_); rintro e w9 ⟨rfl, hb⟩; refine ⟨_, rfl, ?_⟩; have n0_ := Aside0.mk (below_step (by repeat (first | (with_reducible first | exact HB.out | apply below_alloc | apply pw_below_drewN | apply below_drew1) | exact HB.out)) hb); clear HB; have HB := n0_; clear n0_; (try clear hb); (try clear hb2); (try clear hk); (try clear hi)) | ((with_reducible refine gate_callee (f := 14) rfl ?_); refine goesL_ (some 16) rfl rfl Try.func14 (by kernel_rfl) rfl #[.int .u16 a0] rfl (by (try simp only [List.map_toArray, List.map_cons, List.map_nil]); first | done | rfl | (simp only [List.length_drop, List.length_take]; rfl)) ?_; (with_reducible refine (tegularef21_Small.calls k a0 t398 t399 t402 t403 _ A6.out).mono ?_); rintro e w10 ⟨v400, rfl, ho0, hb⟩; refine ⟨_, rfl, ?_⟩; have n0_ := Aside0.mk (Kd.S_lower ho0 (below_size (by repeat (first | (with_reducible first | exact HB.out | apply below_alloc | apply pw_below_drewN | apply below_drew1) | exact HB.out)))); have n1_ := Aside0.mk (below_step (by repeat (first | (with_reducible first | exact HB.out | apply below_alloc | apply pw_below_drewN | apply below_drew1) | exact HB.out)) hb); clear HB; have HO401 := n0_; have HB := n1_; clear n0_ n1_; (try clear hb); (try clear hb2); (try clear hk); (try clear hi); (try clear ho0)) | ((with_reducible refine gate_dst (N := 7) rfl ?_); (try (refine gate_guard (by rfl) ?_; dsimp only)); refine box_event ?hg (N := 7) ?hd (cs := #[.int .i64 0, .slice none 0 0, .int .i64 0, .int .i64 0]) (t := 28) ?hr ?_; (case hd => rfl); (case hg => rfl); (case hr => first | (go_simp; done) | (go_simp; rfl)); intro gb404 hg w11 hbox hb; have n0_ := Aside0.mk (Kd.S_below (by (with_reducible repeat (first | apply Kd.S_alloc | apply Kd.S_drewN | apply Kd.S_drew)); exact HO401.out) hb); have n1_ := Aside0.mk (below_step (by repeat (first | (with_reducible first | exact HB.out | apply below_alloc | apply pw_below_drewN | apply below_drew1) | exact HB.out)) hb); have n2_ := Aside0.mk (hbox); have n3_ := Aside0.mk ((by rw [hg]; exact (below_size (by repeat (first | (with_reducible first | exact HB.out | apply below_alloc | apply pw_below_drewN | apply below_drew1) | exact HB.out))) : w.heap.size ≤ gb404)); have n4_ := Aside0.mk ((by rw [hg]; exact (below_size (by repeat (first | (with_reducible first | exact HB.out | apply below_alloc | apply pw_below_drewN | apply below_drew1) | exact HB.out))) : w.heap.size ≤ gb404)); clear HO401; clear HB; have HO401 := n0_; have HB := n1_; have BK404 := n2_; have GW404 := n3_; have GE404 := n4_; clear n0_ n1_ n2_ n3_ n4_; clear hb hbox hg; have hcz12_0 : w11.cell? ⟨gb404, 0, none⟩ = some (.int .i64 0) := (blk_cell BK404.out 0).trans rfl; have hcz12_1 : w11.cell? ⟨gb404, 1, none⟩ = some (.slice none 0 0) := (blk_cell BK404.out 1).trans rfl; have hcz12_2 : w11.cell? ⟨gb404, 2, none⟩ = some (.int .i64 0) := (blk_cell BK404.out 2).trans rfl; have hcz12_3 : w11.cell? ⟨gb404, 3, none⟩ = some (.int .i64 0) := (blk_cell BK404.out 3).trans rfl; have hfz12_0 := blk_frozen BK404.out 0; have hfz12_1 := blk_frozen BK404.out 1; have hfz12_2 := blk_frozen BK404.out 2; have hfz12_3 := blk_frozen BK404.out 3; obtain ⟨Ao13, co13, eo13⟩ := Kd.S_slice HO401.out; subst eo13) | ((with_reducible refine gate_callee (f := 23) rfl ?_); refine goesL_ (some 18) rfl rfl Try.func23 (by kernel_rfl) rfl #[.agg #[.int .i64 t398, .slice Ao13 t399.length co13, .int .i64 t402, .int .i64 t403]] rfl (by (try simp only [List.map_toArray, List.map_cons, List.map_nil]); first | done | rfl | (simp only [List.length_drop, List.length_take]; rfl)) ?_; (with_reducible refine (tegularef21_Width.calls t398 _ _ t399 t402 t403 t405 _ ?side1 ?side2 A7.out).mono ?_); (case side1 => refine (Kd.S_reads' (e := 56) (base := w.heap.size) (ok := fun k_ => True) (n := t399.length) (c := co13) ?_).2.2; exact (by (with_reducible repeat (first | apply Kd.S_alloc | apply Kd.S_drewN | apply Kd.S_drew)); exact (Kd.S_mono (Kd.S_far (p := ⟨gb404, 3, none⟩) (Kd.S_far (p := ⟨gb404, 2, none⟩) (Kd.S_far (p := ⟨gb404, 1, none⟩) (Kd.S_far (p := ⟨gb404, 0, none⟩) (Kd.S_types HO401.out BK404.out (by decide)) (fun _ hk => hk.2) (.int .i64 t398)) (fun _ hk => hk.2) (.slice Ao13 t399.length co13)) (fun _ hk => hk.2) (.int .i64 t402)) (fun _ hk => hk.2) (.int .i64 t403)) (fun _ h_ => h_.1)))); (case side2 => exact (Kd.S_reads' HO401.out).2.1); rintro e w14 ⟨rfl, hb⟩; refine ⟨_, rfl, ?_⟩; have n0_ := Aside0.mk (Kd.S_below (by (with_reducible repeat (first | apply Kd.S_alloc | apply Kd.S_drewN | apply Kd.S_drew)); exact (Kd.S_mono (Kd.S_far (p := ⟨gb404, 3, none⟩) (Kd.S_far (p := ⟨gb404, 2, none⟩) (Kd.S_far (p := ⟨gb404, 1, none⟩) (Kd.S_far (p := ⟨gb404, 0, none⟩) (Kd.S_types HO401.out BK404.out (by decide)) (fun _ hk => hk.2) (.int .i64 t398)) (fun _ hk => hk.2) (.slice Ao13 t399.length co13)) (fun _ hk => hk.2) (.int .i64 t402)) (fun _ hk => hk.2) (.int .i64 t403)) (fun _ h_ => h_.1))) hb); have n1_ := Aside0.mk (blk_below (g := gb404) (o := .cells #[.int .i64 t398, .slice Ao13 t399.length co13, .int .i64 t402, .int .i64 t403] 28 (0, 0)) (by (with_reducible repeat (first | refine blk_drewN ?_ _ | refine blk_drew ?_ | refine blk_alloc ?_ _)); refine blk_put (cs := #[.int .i64 t398, .slice Ao13 t399.length co13, .int .i64 t402, .int .i64 0]) ?_ 3 _ rfl; (with_reducible repeat (first | refine blk_drewN ?_ _ | refine blk_drew ?_ | refine blk_alloc ?_ _)); refine blk_put (cs := #[.int .i64 t398, .slice Ao13 t399.length co13, .int .i64 0, .int .i64 0]) ?_ 2 _ rfl; (with_reducible repeat (first | refine blk_drewN ?_ _ | refine blk_drew ?_ | refine blk_alloc ?_ _)); refine blk_put (cs := #[.int .i64 t398, .slice none 0 0, .int .i64 0, .int .i64 0]) ?_ 1 _ rfl; (with_reducible repeat (first | refine blk_drewN ?_ _ | refine blk_drew ?_ | refine blk_alloc ?_ _)); refine blk_put (cs := #[.int .i64 0, .slice none 0 0, .int .i64 0, .int .i64 0]) ?_ 0 _ rfl; (with_reducible repeat (first | refine blk_drewN ?_ _ | refine blk_drew ?_ | refine blk_alloc ?_ _)); exact BK404.out) hb); have n2_ := Aside0.mk (below_step (by repeat (first | (with_reducible first | exact HB.out | apply below_alloc | apply pw_below_drewN | apply below_drew1 | refine below_set ?_ GE404.out) | exact HB.out)) hb); clear HO401; clear BK404; clear HB; have HO401 := n0_; have BK404 := n1_; have HB := n2_; clear n0_ n1_ n2_; (try clear hb); (try clear hb2); (try clear hk); (try clear hi); have hcz15_0 : w14.cell? ⟨gb404, 0, none⟩ = some (.int .i64 t398) := (blk_cell BK404.out 0).trans rfl; have hcz15_1 : w14.cell? ⟨gb404, 1, none⟩ = some (.slice Ao13 t399.length co13) := (blk_cell BK404.out 1).trans rfl; have hcz15_2 : w14.cell? ⟨gb404, 2, none⟩ = some (.int .i64 t402) := (blk_cell BK404.out 2).trans rfl; have hcz15_3 : w14.cell? ⟨gb404, 3, none⟩ = some (.int .i64 t403) := (blk_cell BK404.out 3).trans rfl; have hfz15_0 := blk_frozen BK404.out 0; have hfz15_1 := blk_frozen BK404.out 1; have hfz15_2 := blk_frozen BK404.out 2; have hfz15_3 := blk_frozen BK404.out 3))
    (try simp only [Act.put, List.setIfInBounds_toArray, List.set_cons_zero, List.set_cons_succ])
    go_cut [] (fun wc => ∃ (kq : Nat) (x405002_7 : Int), Aside0 (tegulalaw21_LayoutSpread.j0 kq a1 t398 t399 x405002_7 t403 = some r) ∧ Aside0 (kq ≤ k) ∧ Aside0 (Kd.S (Kd.slice 3 (Kd.int .i64)) 56 wc w.heap.size (fun _ => True) (.slice Ao13 t399.length co13) t399) ∧ Aside0 (wc.heap[gb404]? = some (.cells #[.int .i64 t398, (.slice Ao13 t399.length co13), .int .i64 x405002_7, .int .i64 t403] 28 (0, 0))) ∧ Aside0 (Below w.heap.size w wc))
    case first =>
      have H := HC8.out
      clear HC8
      by_cases c16 : a2 = true
      · subst c16
        have H1 : (tegulalaw21_LayoutSpread.j0 k a1 t398 t399 (wrap64 (2 * t405)) t403) = some r := by rw [if_pos rfl] at H; exact H
        clear H
        have H := H1
        clear H1
        have H' := Aside0.mk H
        clear H
        have hcz17_0 : w14.cell? ⟨gb404, 0, none⟩ = some (.int .i64 t398) := (blk_cell BK404.out 0).trans rfl
        have hcz17_1 : w14.cell? ⟨gb404, 1, none⟩ = some (.slice Ao13 t399.length co13) := (blk_cell BK404.out 1).trans rfl
        have hcz17_2 : w14.cell? ⟨gb404, 2, none⟩ = some (.int .i64 t402) := (blk_cell BK404.out 2).trans rfl
        have hcz17_3 : w14.cell? ⟨gb404, 3, none⟩ = some (.int .i64 t403) := (blk_cell BK404.out 3).trans rfl
        have hfz17_0 := blk_frozen BK404.out 0
        have hfz17_1 := blk_frozen BK404.out 1
        have hfz17_2 := blk_frozen BK404.out 2
        have hfz17_3 := blk_frozen BK404.out 3
        go_wp2
        go_meet
        case rel => exact ⟨_, (wrap64 (2 * t405)), H', ⟨by first | omega | exact Nat.le_refl _⟩, ⟨by (with_reducible repeat (first | apply Kd.S_alloc | apply Kd.S_drewN | apply Kd.S_drew)); exact Kd.S_mono (Kd.S_far (p := ⟨gb404, 2, none⟩) (Kd.S_far (p := ⟨gb404, 2, none⟩) (Kd.S_types HO401.out BK404.out (by decide)) (fun _ hk => hk.2) (.int .i64 t405)) (fun _ hk => hk.2) (.int .i64 (wrap64 (2 * t405)))) (fun _ hk => trivial)⟩, ⟨by (with_reducible repeat (first | refine blk_drewN ?_ _ | refine blk_drew ?_ | refine blk_alloc ?_ _)); refine blk_put (cs := #[.int .i64 t398, .slice Ao13 t399.length co13, .int .i64 t405, .int .i64 t403]) ?_ 2 _ rfl; (with_reducible repeat (first | refine blk_drewN ?_ _ | refine blk_drew ?_ | refine blk_alloc ?_ _)); refine blk_put (cs := #[.int .i64 t398, .slice Ao13 t399.length co13, .int .i64 t402, .int .i64 t403]) ?_ 2 _ rfl; (with_reducible repeat (first | refine blk_drewN ?_ _ | refine blk_drew ?_ | refine blk_alloc ?_ _)); exact BK404.out⟩, ⟨by repeat (first | (with_reducible first | exact HB.out | apply below_alloc | apply pw_below_drewN | apply below_drew1 | refine below_set ?_ GE404.out) | exact HB.out)⟩⟩
      · replace c16 := Bool.eq_false_iff.mpr c16
        subst c16
        have H1 : (tegulalaw21_LayoutSpread.j0 k a1 t398 t399 t405 t403) = some r := by rw [if_neg (show ¬ (false = true) by decide)] at H; exact H
        clear H
        have H := H1
        clear H1
        have H' := Aside0.mk H
        clear H
        go_wp2
        go_meet
        case rel => exact ⟨_, (t405), H', ⟨by first | omega | exact Nat.le_refl _⟩, ⟨by (with_reducible repeat (first | apply Kd.S_alloc | apply Kd.S_drewN | apply Kd.S_drew)); exact Kd.S_mono (Kd.S_far (p := ⟨gb404, 2, none⟩) (Kd.S_types HO401.out BK404.out (by decide)) (fun _ hk => hk.2) (.int .i64 t405)) (fun _ hk => trivial)⟩, ⟨by (with_reducible repeat (first | refine blk_drewN ?_ _ | refine blk_drew ?_ | refine blk_alloc ?_ _)); refine blk_put (cs := #[.int .i64 t398, .slice Ao13 t399.length co13, .int .i64 t402, .int .i64 t403]) ?_ 2 _ rfl; (with_reducible repeat (first | refine blk_drewN ?_ _ | refine blk_drew ?_ | refine blk_alloc ?_ _)); exact BK404.out⟩, ⟨by repeat (first | (with_reducible first | exact HB.out | apply below_alloc | apply pw_below_drewN | apply below_drew1 | refine below_set ?_ GE404.out) | exact HB.out)⟩⟩
    case rest =>
      clear HC8
      try clear c1
      try clear c2
      try clear p2
      try clear c5
      try clear p6
      try clear c10
      try clear c13
      try clear c14
      try clear c16
      try clear hcz12_0
      try clear hcz12_1
      try clear hcz12_2
      try clear hcz12_3
      try clear hcz15_0
      try clear hcz15_1
      try clear hcz15_2
      try clear hcz15_3
      try clear hcz17_0
      try clear hcz17_1
      try clear hcz17_2
      try clear hcz17_3
      try clear hfz12_0
      try clear hfz12_1
      try clear hfz12_2
      try clear hfz12_3
      try clear hfz15_0
      try clear hfz15_1
      try clear hfz15_2
      try clear hfz15_3
      try clear hfz17_0
      try clear hfz17_1
      try clear hfz17_2
      try clear hfz17_3
      obtain ⟨kq, x405002_7, HA, HJ7, HO_405001, BK404, HB⟩ := hcut
      cases kq with
      | zero => exact absurd HA.out (by simp [tegulalaw21_LayoutSpread.j0])
      | succ kj7 =>
        have H := HA.out
        clear HA
        simp only [tegulalaw21_LayoutSpread.j0] at H
        by_cases c18 : t398 = 0
        · rw [if_pos c18] at H
          exact absurd H (by simp)
        · rw [if_neg c18] at H
          have c18b0 : (t398 == 0) = false := beq_eq_false_iff_ne.mpr c18
          have c18b1 : (t398 != 0) = true := bne_iff_ne.mpr c18
          replace H := Option.bind_eq_some_iff.mp H
          obtain ⟨⟨t406, t409⟩, A190, H⟩ := H
          replace H : ((tegularef21_Width.f t398 t399 x405002_7 t403).bind fun t410 => (if 0 ≤ t410 then (if (t410 : Int).toNat ≤ 35184372088832 then (tegulalaw21_LayoutSpread.l0 kj7 t406 t409 (List.replicate (t410 : Int).toNat 0) 0) else (none)) else (none))) = some r := H
          have A19 := Aside0.mk A190
          clear A190
          replace H := Option.bind_eq_some_iff.mp H
          obtain ⟨t410, A200, H⟩ := H
          replace H : (if 0 ≤ t410 then (if (t410 : Int).toNat ≤ 35184372088832 then (tegulalaw21_LayoutSpread.l0 kj7 t406 t409 (List.replicate (t410 : Int).toNat 0) 0) else (none)) else (none)) = some r := H
          have A20 := Aside0.mk A200
          clear A200
          by_cases c21 : 0 ≤ t410
          · rw [if_pos c21] at H
            have c21b0 := eq_true c21
            have c21b1 : decide (0 ≤ t410) = true := decide_eq_true c21
            clear c21
            by_cases c22 : (t410 : Int).toNat ≤ 35184372088832
            · rw [if_pos c22] at H
              have c22b0 := eq_true c22
              have c22b1 : decide ((t410 : Int).toNat ≤ 35184372088832) = true := decide_eq_true c22
              clear c22
              obtain ⟨y411, hy411⟩ : ∃ y_ : List Int, y_ = (List.replicate (t410 : Int).toNat 0) := ⟨_, rfl⟩
              replace H : (tegulalaw21_LayoutSpread.l0 kj7 t406 t409 y411 0) = some r := by first | (rw [hy411]; with_reducible exact H) | (have H2_ := (Option.bind_some _ _).symm.trans H; rw [hy411]; with_reducible exact H2_) | (have H2_ := (Option.bind_some _ _).symm.trans H; with_reducible exact H2_) | with_reducible exact H | (rw [hy411]; exact H) | exact H
              have Ny411 := Aside0.mk hy411
              clear hy411
              have H' := Aside0.mk H
              clear H
              try go_wp2
              have n0_ := Aside0.mk (Kd.S_drew HO_405001.out)
              have n1_ := Aside0.mk (blk_drew BK404.out)
              have n2_ := Aside0.mk (below_drew1 HB.out)
              clear HO_405001
              clear BK404
              clear HB
              have HO_405001 := n0_
              have BK404 := n1_
              have HB := n2_
              clear n0_ n1_ n2_
              refine start_ (n := 13) (S := fun w' => w'.cell? ⟨gb404, 0, none⟩ = some (.int .i64 t398) ∧ w'.cell? ⟨gb404, 1, none⟩ = some (.slice Ao13 t399.length co13) ∧ w'.cell? ⟨gb404, 2, none⟩ = some (.int .i64 x405002_7) ∧ w'.cell? ⟨gb404, 3, none⟩ = some (.int .i64 t403)) (ds := []) #[false, false, false, false, false, false, false, false, false, false, false, false, false] (by kernel_rfl) rfl rfl ⟨(blk_cell BK404.out 0).trans rfl, (blk_cell BK404.out 1).trans rfl, (blk_cell BK404.out 2).trans rfl, (blk_cell BK404.out 3).trans rfl⟩ (fun hHeld => ?_); refine with_tabW tegulalaw21_LayoutSpread.tab7 tegulalaw21_LayoutSpread.bits7 (fun HT_ HW_ => ?_)
              generalize wc.drew = w23 at HO_405001 BK404 HB hHeld ⊢
              refine pure_ (i := 1) (N := some 27) (v := ?_) (a' := ?_) #[false, true, false, false, false, false, false, false, false, false, false, false, false] rfl rfl (any_of HT_.out (by kernel_rfl)) (fun _ _ _ h => h) (Or.inl ⟨by rfl, ?_⟩) ?_ ?_
              rotate_left
              · intro w'
                go_simp
                with_reducible rfl
              rotate_left
              · simp only [Act.put, List.setIfInBounds_toArray, List.set_cons_zero, List.set_cons_succ, i64_w, i32_w]
                rfl
              refine pure_ (i := 2) (N := some 28) (v := ?_) (a' := ?_) #[false, true, true, false, false, false, false, false, false, false, false, false, false] rfl rfl (any_of HT_.out (by kernel_rfl)) (fun _ _ _ h => h) (Or.inl ⟨by rfl, ?_⟩) ?_ ?_
              rotate_left
              · intro w'
                go_simp
                with_reducible rfl
              rotate_left
              · simp only [Act.put, List.setIfInBounds_toArray, List.set_cons_zero, List.set_cons_succ, i64_w, i32_w]
                rfl
              refine pure_ (i := 3) (N := some 29) (v := ?_) (a' := ?_) #[false, true, true, true, false, false, false, false, false, false, false, false, false] rfl rfl (any_of HT_.out (by kernel_rfl)) (fun _ _ _ h => h) (Or.inl ⟨by rfl, ?_⟩) ?_ ?_
              rotate_left
              · intro w'
                go_simp
                with_reducible rfl
              rotate_left
              · simp only [Act.put, List.setIfInBounds_toArray, List.set_cons_zero, List.set_cons_succ, i64_w, i32_w]
                rfl
              refine pure_ (i := 4) (N := some 30) (v := ?_) (a' := ?_) #[false, true, true, true, true, false, false, false, false, false, false, false, false] rfl rfl (any_of HT_.out (by kernel_rfl)) (fun _ _ _ h => h) (Or.inl ⟨by rfl, ?_⟩) ?_ ?_
              rotate_left
              · intro w'
                go_simp
                with_reducible rfl
              rotate_left
              · simp only [Act.put, List.setIfInBounds_toArray, List.set_cons_zero, List.set_cons_succ, i64_w, i32_w]
                rfl
              refine take_ (i := 0) (N := some 26) (v := ?_) (a' := ?_) #[true, true, true, true, true, false, false, false, false, false, false, false, false] rfl rfl (take_ofW HT_.out HW_.out (by kernel_rfl)) (fun _ _ _ h => h) (Or.inl ⟨by rfl, ?_⟩) hHeld ?_ ?_
              rotate_left
              · rintro w' ⟨s0, s1, s2, s3⟩
                go_simp
                with_reducible rfl
              rotate_left
              · simp only [Act.put, List.setIfInBounds_toArray, List.set_cons_zero, List.set_cons_succ, i64_w, i32_w]
                rfl
              refine take_ (i := 5) (N := some 31) (v := ?_) (a' := ?_) #[true, true, true, true, true, true, false, false, false, false, false, false, false] rfl rfl (take_ofW HT_.out HW_.out (by kernel_rfl)) (fun _ _ _ h => h) (Or.inl ⟨by rfl, ?_⟩) hHeld ?_ ?_
              rotate_left
              · rintro w' ⟨s0, s1, s2, s3⟩
                go_simp
                with_reducible rfl
              rotate_left
              · simp only [Act.put, List.setIfInBounds_toArray, List.set_cons_zero, List.set_cons_succ, i64_w, i32_w]
                rfl
              refine pure_ (i := 6) (N := some 32) (v := ?_) (a' := ?_) #[true, true, true, true, true, true, true, false, false, false, false, false, false] rfl rfl (any_of HT_.out (by kernel_rfl)) (fun _ _ _ h => h) (Or.inl ⟨by rfl, ?_⟩) ?_ ?_
              rotate_left
              · intro w'
                go_simp
                with_reducible rfl
              rotate_left
              · simp only [Act.put, List.setIfInBounds_toArray, List.set_cons_zero, List.set_cons_succ, i64_w, i32_w]
                rfl
              refine one_ (i := 7) (N := some 33) #[true, true, true, true, true, true, true, true, false, false, false, false, false] rfl rfl (one_of HT_.out (by kernel_rfl)) (by decide) (fun K hK => ?_)
              refine goes_ Try.func33 (by kernel_rfl) rfl #[.agg #[.int .i64 t398, .slice Ao13 t399.length co13, .int .i64 x405002_7, .int .i64 t403], .int .i64 (Int.tmod (wrap64 (a1)) t398)] (by rfl) rfl rfl (by (try simp only [List.map_toArray, List.map_cons, List.map_nil]); first | done | rfl | (simp only [List.length_drop, List.length_take]; rfl)) ?_
              with_reducible refine (layout_OnDisk.calls t398 _ _ t399 x405002_7 t403 (Int.tmod (wrap64 (a1)) t398) t406 t409 _ ?side1 ?side2 A19.out).mono ?_
              (case side1 => repeat (first | exact (Kd.S_reads' HO_405001.out).2.2 | (with_reducible refine Kd.C_alloc ?_ _) | (with_reducible refine Kd.C_drewN ?_ _) | (with_reducible refine Kd.C_drew ?_)))
              (case side2 => exact (Kd.S_reads' HO_405001.out).2.1)
              rintro e w24 ⟨v407, rfl, ho0, hb⟩
              refine ⟨_, rfl, ?_⟩
              have n0_ := Aside0.mk (Kd.S_below (by (with_reducible repeat (first | apply Kd.S_alloc | apply Kd.S_drewN | apply Kd.S_drew)); exact HO_405001.out) hb)
              have n1_ := Aside0.mk (Kd.R_lower ho0 (below_size (by repeat (first | (with_reducible first | exact HB.out | apply below_alloc | apply pw_below_drewN | apply below_drew1 | refine below_set ?_ GE404.out) | exact HB.out))))
              have n2_ := Aside0.mk (blk_below (g := gb404) (o := .cells #[.int .i64 t398, .slice Ao13 t399.length co13, .int .i64 x405002_7, .int .i64 t403] 28 (0, 0)) (by (with_reducible repeat (first | refine blk_drewN ?_ _ | refine blk_drew ?_ | refine blk_alloc ?_ _)); exact BK404.out) hb)
              have n3_ := Aside0.mk (below_step (by repeat (first | (with_reducible first | exact HB.out | apply below_alloc | apply pw_below_drewN | apply below_drew1 | refine below_set ?_ GE404.out) | exact HB.out)) hb)
              clear HO_405001
              clear BK404
              clear HB
              have HO_405001 := n0_
              have HO408 := n1_
              have BK404 := n2_
              have HB := n3_
              clear n0_ n1_ n2_ n3_
              (try clear hb)
              (try clear hb2)
              (try clear hk)
              (try clear hi)
              (try clear ho0)
              refine hK.out _ _ ⟨(blk_cell BK404.out 0).trans rfl, (blk_cell BK404.out 1).trans rfl, (blk_cell BK404.out 2).trans rfl, (blk_cell BK404.out 3).trans rfl⟩ (fun hHeld => ?_)
              clear hK K
              refine norm_ (a' := ?_) ?_ ?_
              rotate_left
              · show Act.put _ (some 33) _ = _
                simp only [Act.put, List.setIfInBounds_toArray, List.set_cons_zero, List.set_cons_succ, i64_w, i32_w]
                rfl
              refine pure_ (i := 8) (N := some 25) (v := ?_) (a' := ?_) #[true, true, true, true, true, true, true, true, true, false, false, false, false] rfl rfl (any_of HT_.out (by kernel_rfl)) (fun _ _ _ h => h) (Or.inl ⟨by rfl, ?_⟩) ?_ ?_
              rotate_left
              · intro w'
                go_simp
                with_reducible rfl
              rotate_left
              · simp only [Act.put, List.setIfInBounds_toArray, List.set_cons_zero, List.set_cons_succ, i64_w, i32_w]
                rfl
              refine pure_ (i := 9) (N := some 34) (v := ?_) (a' := ?_) #[true, true, true, true, true, true, true, true, true, true, false, false, false] rfl rfl (any_of HT_.out (by kernel_rfl)) (fun _ _ _ h => h) (Or.inl ⟨by rfl, ?_⟩) ?_ ?_
              rotate_left
              · intro w'
                go_simp
                with_reducible rfl
              rotate_left
              · simp only [Act.put, List.setIfInBounds_toArray, List.set_cons_zero, List.set_cons_succ, i64_w, i32_w]
                rfl
              refine pure_ (i := 10) (N := some 35) (v := ?_) (a' := ?_) #[true, true, true, true, true, true, true, true, true, true, true, false, false] rfl rfl (any_of HT_.out (by kernel_rfl)) (fun _ _ _ h => h) (Or.inl ⟨by rfl, ?_⟩) ?_ ?_
              rotate_left
              · intro w'
                go_simp
                with_reducible rfl
              rotate_left
              · simp only [Act.put, List.setIfInBounds_toArray, List.set_cons_zero, List.set_cons_succ, i64_w, i32_w]
                rfl
              refine pure_ (i := 11) (N := some 8) (v := ?_) (a' := ?_) #[true, true, true, true, true, true, true, true, true, true, true, true, false] rfl rfl (any_of HT_.out (by kernel_rfl)) (fun _ _ _ h => h) (Or.inl ⟨by rfl, ?_⟩) ?_ ?_
              rotate_left
              · intro w'
                go_simp
                with_reducible rfl
              rotate_left
              · simp only [Act.put, List.setIfInBounds_toArray, List.set_cons_zero, List.set_cons_succ, i64_w, i32_w]
                rfl
              refine pure_ (i := 12) (N := some 9) (v := ?_) (a' := ?_) #[true, true, true, true, true, true, true, true, true, true, true, true, true] rfl rfl (any_of HT_.out (by kernel_rfl)) (fun _ _ _ h => h) (Or.inl ⟨by rfl, ?_⟩) ?_ ?_
              rotate_left
              · intro w'
                go_simp
                with_reducible rfl
              rotate_left
              · simp only [Act.put, List.setIfInBounds_toArray, List.set_cons_zero, List.set_cons_succ, i64_w, i32_w]
                rfl
              refine done_ (done_of HT_.out (by kernel_rfl)) ?_
              have hcz25_0 : w24.cell? ⟨gb404, 0, none⟩ = some (.int .i64 t398) := (blk_cell BK404.out 0).trans rfl
              have hcz25_1 : w24.cell? ⟨gb404, 1, none⟩ = some (.slice Ao13 t399.length co13) := (blk_cell BK404.out 1).trans rfl
              have hcz25_2 : w24.cell? ⟨gb404, 2, none⟩ = some (.int .i64 x405002_7) := (blk_cell BK404.out 2).trans rfl
              have hcz25_3 : w24.cell? ⟨gb404, 3, none⟩ = some (.int .i64 t403) := (blk_cell BK404.out 3).trans rfl
              have hfz25_0 := blk_frozen BK404.out 0
              have hfz25_1 := blk_frozen BK404.out 1
              have hfz25_2 := blk_frozen BK404.out 2
              have hfz25_3 := blk_frozen BK404.out 3
              try go_wp2_with (first | ((with_reducible refine gate_callee (f := 23) rfl ?_); refine goesL_ (some 37) rfl rfl Try.func23 (by kernel_rfl) rfl #[.agg #[.int .i64 t398, .slice Ao13 t399.length co13, .int .i64 x405002_7, .int .i64 t403]] rfl (by (try simp only [List.map_toArray, List.map_cons, List.map_nil]); first | done | rfl | (simp only [List.length_drop, List.length_take]; rfl)) ?_; (with_reducible refine (tegularef21_Width.calls t398 _ _ t399 x405002_7 t403 t410 _ ?side1 ?side2 A20.out).mono ?_); (case side1 => repeat (first | exact (Kd.S_reads' HO_405001.out).2.2 | (with_reducible refine Kd.C_alloc ?_ _) | (with_reducible refine Kd.C_drewN ?_ _) | (with_reducible refine Kd.C_drew ?_))); (case side2 => exact (Kd.S_reads' HO_405001.out).2.1); rintro e w26 ⟨rfl, hb⟩; refine ⟨_, rfl, ?_⟩; have n0_ := Aside0.mk (Kd.S_below (by (with_reducible repeat (first | apply Kd.S_alloc | apply Kd.S_drewN | apply Kd.S_drew)); exact HO_405001.out) hb); have n1_ := Aside0.mk (Kd.R_below (by (with_reducible repeat (first | apply Kd.R_alloc | apply Kd.R_drewN | apply Kd.R_drew)); exact HO408.out) hb); have n2_ := Aside0.mk (blk_below (g := gb404) (o := .cells #[.int .i64 t398, .slice Ao13 t399.length co13, .int .i64 x405002_7, .int .i64 t403] 28 (0, 0)) (by (with_reducible repeat (first | refine blk_drewN ?_ _ | refine blk_drew ?_ | refine blk_alloc ?_ _)); exact BK404.out) hb); have n3_ := Aside0.mk (below_step (by repeat (first | (with_reducible first | exact HB.out | apply below_alloc | apply pw_below_drewN | apply below_drew1 | refine below_set ?_ GE404.out) | exact HB.out)) hb); clear HO_405001; clear HO408; clear BK404; clear HB; have HO_405001 := n0_; have HO408 := n1_; have BK404 := n2_; have HB := n3_; clear n0_ n1_ n2_ n3_; (try clear hb); (try clear hb2); (try clear hk); (try clear hi)) | ((with_reducible refine gate_dst (N := 38) rfl ?_); (try (refine gate_guard (by rfl) ?_; dsimp only)); refine Kd.R_make (Kd.int .i64) _ 3 rfl (N := 38) rfl 56 _ _ rfl t410 rfl rfl Try.underlying56 (.int .i64 0) 8 info3 rfl (by decide) (by omega) 0 (ok := fun _ => True) (okp := fun _ => True) rfl (fun _ hk => hk) trivial (of_decide_eq_true (by first | (with_reducible assumption) | assumption)) (Nat.le_trans (Nat.mul_le_mul_right _ (of_decide_eq_true (by first | (with_reducible assumption) | assumption) : t410.toNat ≤ 35184372088832)) (by omega)) (Below.refl _ _) (Nat.le_refl _) ?_; intro v412 w27 ho28 hb hg_ hnew_; clear hg_ hnew_; (first | rw [← Ny411.out] at ho28 | (simp only [Int.reduceToNat] at ho28; rw [← Ny411.out] at ho28)); have n0_ := Aside0.mk (Kd.S_elder' (by (with_reducible repeat (first | apply Kd.S_alloc | apply Kd.S_drewN | apply Kd.S_drew)); exact HO_405001.out) (Kd.R_base ho28) hb); have n1_ := Aside0.mk (Kd.R_below (by (with_reducible repeat (first | apply Kd.R_alloc | apply Kd.R_drewN | apply Kd.R_drew)); exact HO408.out) hb); have n2_ := Aside0.mk (Kd.R_lower ho28 (below_size (by repeat (first | (with_reducible first | exact HB.out | apply below_alloc | apply pw_below_drewN | apply below_drew1 | refine below_set ?_ GE404.out) | exact HB.out)))); have n3_ := Aside0.mk (blk_below (g := gb404) (o := .cells #[.int .i64 t398, .slice Ao13 t399.length co13, .int .i64 x405002_7, .int .i64 t403] 28 (0, 0)) (by (with_reducible repeat (first | refine blk_drewN ?_ _ | refine blk_drew ?_ | refine blk_alloc ?_ _)); exact BK404.out) hb); have n4_ := Aside0.mk (below_step (by repeat (first | (with_reducible first | exact HB.out | apply below_alloc | apply pw_below_drewN | apply below_drew1 | refine below_set ?_ GE404.out) | exact HB.out)) hb); clear HO_405001; clear HO408; clear BK404; clear HB; have HO_405001 := n0_; have HO408 := n1_; have HO413 := n2_; have BK404 := n3_; have HB := n4_; clear n0_ n1_ n2_ n3_ n4_; clear hb ho28))
              go_loopg [11] kj7 (fun kq v11 w' => ∃ (x10_2 : List Int) (x11_2 : Int), v11 = .int .i64 x11_2 ∧ Aside0 (tegulalaw21_LayoutSpread.l0 kq t406 t409 x10_2 x11_2 = some r) ∧ Aside0 (kq ≤ kj7) ∧ Aside0 (Kd.R k52 52 w' w.heap.size (fun _ => True) v407 t406) ∧ Aside0 (Kd.R (Kd.int .i64) 3 w' w.heap.size (fun _ => True) v412 x10_2) ∧ Aside0 (Kd.S (Kd.slice 3 (Kd.int .i64)) 56 w' w.heap.size (fun k_ => some k_ ≠ (v412 : Value).ownBlock) (.slice Ao13 t399.length co13) t399) ∧ Aside0 (w'.heap[gb404]? = some (.cells #[.int .i64 t398, (.slice Ao13 t399.length co13), .int .i64 x405002_7, .int .i64 t403] 28 (0, 0))) ∧ Aside0 (Below w.heap.size w w'))
              case atStart => exact ⟨(y411), (0), (by first | rfl | (simp; done) | (simp [*]; done)), H', ⟨Nat.le_refl _⟩, ⟨by (with_reducible repeat (first | apply Kd.R_alloc | apply Kd.R_drewN | apply Kd.R_drew)); exact HO408.out⟩, ⟨by (with_reducible repeat (first | apply Kd.R_alloc | apply Kd.R_drewN | apply Kd.R_drew)); exact HO413.out⟩, ⟨by (with_reducible repeat (first | apply Kd.S_alloc | apply Kd.S_drewN | apply Kd.S_drew)); exact Kd.S_mono HO_405001.out (fun _ hk => hk.2)⟩, ⟨by (with_reducible repeat (first | refine blk_drewN ?_ _ | refine blk_drew ?_ | refine blk_alloc ?_ _)); exact BK404.out⟩, ⟨by repeat (first | (with_reducible first | exact HB.out | apply below_alloc | apply pw_below_drewN | apply below_drew1 | refine below_set ?_ GE404.out) | exact HB.out)⟩⟩
              case round =>
                clear H'
                try clear c1
                try clear c2
                try clear p2
                try clear c3
                try clear c5
                try clear p6
                try clear c10
                try clear c13
                try clear c14
                try clear c16
                try clear c18
                try clear c18b0
                try clear c18b1
                try clear c21
                try clear c21b0
                try clear c21b1
                try clear c22
                try clear c22b0
                try clear c22b1
                try clear c23
                try clear hcz12_0
                try clear hcz12_1
                try clear hcz12_2
                try clear hcz12_3
                try clear hcz15_0
                try clear hcz15_1
                try clear hcz15_2
                try clear hcz15_3
                try clear hcz17_0
                try clear hcz17_1
                try clear hcz17_2
                try clear hcz17_3
                try clear hcz25_0
                try clear hcz25_1
                try clear hcz25_2
                try clear hcz25_3
                try clear hfz12_0
                try clear hfz12_1
                try clear hfz12_2
                try clear hfz12_3
                try clear hfz15_0
                try clear hfz15_1
                try clear hfz15_2
                try clear hfz15_3
                try clear hfz17_0
                try clear hfz17_1
                try clear hfz17_2
                try clear hfz17_3
                try clear hfz25_0
                try clear hfz25_1
                try clear hfz25_2
                try clear hfz25_3
                try clear p2
                try clear p6
                obtain ⟨x10_2, x11_2, rfl, HA, HK2, HO_8, HO_10, HO_405001, BK404, HB⟩ := hrel
                cases gk with
                | zero => exact absurd HA.out (by simp [tegulalaw21_LayoutSpread.l0])
                | succ k2 =>
                  have H := HA.out
                  clear HA
                  simp only [tegulalaw21_LayoutSpread.l0] at H
                  by_cases c29 : x11_2 < (t406.length : Int)
                  · rw [if_pos c29] at H
                    have c29b0 : decide (x11_2 < (t406.length : Int)) = true := decide_eq_true c29
                    clear c29
                    by_cases c30 : 0 ≤ x11_2
                    · rw [if_pos c30] at H
                      have c30b0 : decide (0 ≤ x11_2) = true := decide_eq_true c30
                      clear c30
                      by_cases c31 : ((rd_T52 t406 x11_2).f1) < 0
                      · rw [if_pos c31] at H
                        have c31b0 : decide (((rd_T52 t406 x11_2).f1) < 0) = true := decide_eq_true c31
                        clear c31
                        obtain rfl := Option.some.inj H
                        obtain ⟨Ao32, co32, eo32⟩ := Kd.R_slice HO_8.out
                        subst eo32
                        have p414 : 0 ≤ (x11_2 : Int) := of_decide_eq_true (by first | (with_reducible assumption) | assumption)
                        have q414 : x11_2 < (t406.length : Int) := of_decide_eq_true (by first | (with_reducible assumption) | assumption)
                        obtain ⟨ad414, e414, hx414_0, hx414_1⟩ := at_T52 (Kd.R_reads' HO_8.out).2.2 x11_2 p414 q414
                        cases e414
                        replace p414 := eq_true p414
                        replace q414 := eq_true q414
                        go_wp2
                        go_ret
                        exact ⟨by first | rfl | (simp [errW_none, errW_some] <;> rfl) | (simp [*, errW_none, errW_some] <;> rfl), by repeat (first | (with_reducible first | exact HB.out | apply below_alloc | apply pw_below_drewN | apply below_drew1 | refine below_set ?_ GE404.out) | exact HB.out)⟩
                      · rw [if_neg c31] at H
                        have c31b0 : decide (((rd_T52 t406 x11_2).f1) < 0) = false := decide_eq_false c31
                        clear c31
                        by_cases c33 : ((rd_T52 t406 x11_2).f1) ≥ (x10_2.length : Int)
                        · rw [if_pos c33] at H
                          have c33b0 : decide ((x10_2.length : Int) ≤ ((rd_T52 t406 x11_2).f1)) = true := decide_eq_true c33
                          clear c33
                          obtain rfl := Option.some.inj H
                          obtain ⟨Ao34, co34, eo34⟩ := Kd.R_slice HO_8.out
                          subst eo34
                          have p414 : 0 ≤ (x11_2 : Int) := of_decide_eq_true (by first | (with_reducible assumption) | assumption)
                          have q414 : x11_2 < (t406.length : Int) := of_decide_eq_true (by first | (with_reducible assumption) | assumption)
                          obtain ⟨ad414, e414, hx414_0, hx414_1⟩ := at_T52 (Kd.R_reads' HO_8.out).2.2 x11_2 p414 q414
                          cases e414
                          replace p414 := eq_true p414
                          replace q414 := eq_true q414
                          have p415 : 0 ≤ (x11_2 : Int) := of_decide_eq_true (by first | (with_reducible assumption) | assumption)
                          have q415 : x11_2 < (t406.length : Int) := of_decide_eq_true (by first | (with_reducible assumption) | assumption)
                          obtain ⟨ad415, e415, hx415_0, hx415_1⟩ := at_T52 (Kd.R_reads' HO_8.out).2.2 x11_2 p415 q415
                          obtain rfl : ad414 = ad415 := (by injection e415)
                          replace p415 := eq_true p415
                          replace q415 := eq_true q415
                          obtain ⟨Ao35, co35, eo35⟩ := Kd.R_slice HO_10.out
                          subst eo35
                          go_wp2
                          go_ret
                          exact ⟨by first | rfl | (simp [errW_none, errW_some] <;> rfl) | (simp [*, errW_none, errW_some] <;> rfl), by repeat (first | (with_reducible first | exact HB.out | apply below_alloc | apply pw_below_drewN | apply below_drew1 | refine below_set ?_ GE404.out) | exact HB.out)⟩
                        · rw [if_neg c33] at H
                          have c33b0 : decide ((x10_2.length : Int) ≤ ((rd_T52 t406 x11_2).f1)) = false := decide_eq_false c33
                          clear c33
                          by_cases c36 : 0 ≤ ((rd_T52 t406 x11_2).f1)
                          · rw [if_pos c36] at H
                            have c36b0 : decide (0 ≤ ((rd_T52 t406 x11_2).f1)) = true := decide_eq_true c36
                            clear c36
                            by_cases c37 : ((rd_T52 t406 x11_2).f1) < (x10_2.length : Int)
                            · rw [if_pos c37] at H
                              have c37b0 : decide (((rd_T52 t406 x11_2).f1) < (x10_2.length : Int)) = true := decide_eq_true c37
                              clear c37
                              obtain ⟨y418, hy418⟩ : ∃ y_ : List Int, y_ = (x10_2.set (((rd_T52 t406 x11_2).f1) : Int).toNat (wrap64 ((rd x10_2 ((rd_T52 t406 x11_2).f1)) + 1))) := ⟨_, rfl⟩
                              replace H : (tegulalaw21_LayoutSpread.l0 k2 t406 t409 y418 (wrap64 (x11_2 + 1))) = some r := by first | (rw [hy418]; with_reducible exact H) | (have H2_ := (Option.bind_some _ _).symm.trans H; rw [hy418]; with_reducible exact H2_) | (have H2_ := (Option.bind_some _ _).symm.trans H; with_reducible exact H2_) | with_reducible exact H | (rw [hy418]; exact H) | exact H
                              have Ny418 := Aside0.mk hy418
                              clear hy418
                              have H' := Aside0.mk H
                              clear H
                              obtain ⟨Ao39, co39, eo39⟩ := Kd.R_slice HO_8.out
                              subst eo39
                              have p414 : 0 ≤ (x11_2 : Int) := of_decide_eq_true (by first | (with_reducible assumption) | assumption)
                              have q414 : x11_2 < (t406.length : Int) := of_decide_eq_true (by first | (with_reducible assumption) | assumption)
                              obtain ⟨ad414, e414, hx414_0, hx414_1⟩ := at_T52 (Kd.R_reads' HO_8.out).2.2 x11_2 p414 q414
                              cases e414
                              replace p414 := eq_true p414
                              replace q414 := eq_true q414
                              have p415 : 0 ≤ (x11_2 : Int) := of_decide_eq_true (by first | (with_reducible assumption) | assumption)
                              have q415 : x11_2 < (t406.length : Int) := of_decide_eq_true (by first | (with_reducible assumption) | assumption)
                              obtain ⟨ad415, e415, hx415_0, hx415_1⟩ := at_T52 (Kd.R_reads' HO_8.out).2.2 x11_2 p415 q415
                              obtain rfl : ad414 = ad415 := (by injection e415)
                              replace p415 := eq_true p415
                              replace q415 := eq_true q415
                              obtain ⟨Ao40, co40, eo40⟩ := Kd.R_slice HO_10.out
                              subst eo40
                              have p416 : 0 ≤ (x11_2 : Int) := of_decide_eq_true (by first | (with_reducible assumption) | assumption)
                              have q416 : x11_2 < (t406.length : Int) := of_decide_eq_true (by first | (with_reducible assumption) | assumption)
                              obtain ⟨ad416, e416, hx416_0, hx416_1⟩ := at_T52 (Kd.R_reads' HO_8.out).2.2 x11_2 p416 q416
                              obtain rfl : ad414 = ad416 := (by injection e416)
                              replace p416 := eq_true p416
                              replace q416 := eq_true q416
                              have p417 : 0 ≤ (((rd_T52 t406 x11_2).f1) : Int) := of_decide_eq_true (by first | (with_reducible assumption) | assumption)
                              have q417 : ((rd_T52 t406 x11_2).f1) < (x10_2.length : Int) := of_decide_eq_true (by first | (with_reducible assumption) | assumption)
                              obtain ⟨ad417, e417, hx417_0⟩ := Kd.at_int (Kd.R_reads' HO_10.out).2.2 ((rd_T52 t406 x11_2).f1) p417 q417
                              cases e417
                              replace p417 := eq_true p417
                              replace q417 := eq_true q417
                              have p38 : 0 ≤ (((rd_T52 t406 x11_2).f1) : Int) := of_decide_eq_true (by first | (with_reducible assumption) | assumption)
                              have q38 : (((rd_T52 t406 x11_2).f1) : Int) < ((x10_2.length : Int) : Int) := of_decide_eq_true (by first | (with_reducible assumption) | assumption)
                              obtain ⟨go38, co38, eo38, gb38, gl38, cl38, HG38⟩ := Kd.R_form HO_10.out (by omega)
                              (first | cases eo38 | (injection eo38 with ea_ en_ ec_; (first | subst ea_ | (injection ea_ with ea_; subst ea_)); subst ec_; clear en_))
                              have GB38 := Aside0.mk gb38
                              have GG38 := Aside0.mk HG38
                              clear gb38 gl38 HG38
                              (first | simp only [add_plain] at hx417_0 | skip)
                              obtain ⟨hx38_0, hf38_0⟩ := Kd.R_celln 0 HO_10.out (((rd_T52 t406 x11_2).f1) : Int) p38 q38
                              replace p38 := eq_true p38
                              replace q38 := eq_true q38
                              have HP41 := Kd.R_putg HO_10.out (((rd_T52 t406 x11_2).f1) : Int) (wrap64 ((rd x10_2 ((rd_T52 t406 x11_2).f1)) + 1))
                              go_wp2_with (first | ((with_reducible refine gate_store (t := 3) (p := 70) rfl ?_); refine store_event (t := 3) (p := 70) (v := ?vo_w42) (w1 := (wr.setCell ⟨go38, (((rd_T52 t406 x11_2).f1) : Int).toNat, none⟩ (.int .i64 (wrap64 ((rd x10_2 ((rd_T52 t406 x11_2).f1)) + 1))))) ?hg ?ho ?hn ?hr ?_; (case ho => rfl); (case hg => rfl); (case hn => rfl); (case hr => first | (go_simp; done) | (go_simp; rfl)); intro w42 hw; have hg : wr.grownBy w42 (some go38) := (by rw [hw]; exact HP41.2); have hp_ : Kd.R (Kd.int .i64) 3 w42 w.heap.size (fun _ => True) (.slice (some ⟨go38, 0, none⟩) x10_2.length co40) y418 := (by rw [hw, Ny418.out]; exact HP41.1); clear HP41; have n0_ := Aside0.mk (Kd.R_over' (v := (.slice (some ⟨go38, 0, none⟩) x10_2.length co40)) (by (with_reducible repeat (first | apply Kd.R_alloc | apply Kd.R_drewN | apply Kd.R_drew)); exact HO_8.out) (Kd.R_typed HO_10.out) (by decide) hg); have n1_ := Aside0.mk (hp_); have n2_ := Aside0.mk (Kd.S_after (v := (.slice (some ⟨go38, 0, none⟩) x10_2.length co40)) (v1 := (.slice (some ⟨go38, 0, none⟩) x10_2.length co40)) (ok := (fun _ => True)) (by (with_reducible repeat (first | apply Kd.S_alloc | apply Kd.S_drewN | apply Kd.S_drew)); exact Kd.S_mono HO_405001.out (fun _ hk => ⟨trivial, hk⟩)) hg (.inl rfl)); have n3_ := Aside0.mk (blk_grown (g := gb404) (o := .cells #[.int .i64 t398, .slice Ao13 t399.length co13, .int .i64 x405002_7, .int .i64 t403] 28 (0, 0)) (by (with_reducible repeat (first | refine blk_drewN ?_ _ | refine blk_drew ?_ | refine blk_alloc ?_ _)); exact BK404.out) hg (Kd.R_ne HO_10.out BK404.out (by decide))); have n4_ := Aside0.mk ((by rw [hw]; exact below_set (HB.out) GB38.out : Below w.heap.size w w42)); clear HO_8; clear HO_10; clear HO_405001; clear BK404; clear HB; have HO_8 := n0_; have HO_10 := n1_; have HO_405001 := n2_; have BK404 := n3_; have HB := n4_; clear n0_ n1_ n2_ n3_ n4_; clear hg hw hp_))
                              go_roundg k2
                              case measure => have := HJ7.out; have := HK2.out; omega
                              case rel => exact ⟨(y418), (wrap64 (x11_2 + 1)), (by first | rfl | (simp; done) | (simp [*]; done)), H', ⟨by have := HJ7.out; have := HK2.out; omega⟩, ⟨by (with_reducible repeat (first | apply Kd.R_alloc | apply Kd.R_drewN | apply Kd.R_drew)); exact HO_8.out⟩, ⟨by (with_reducible repeat (first | apply Kd.R_alloc | apply Kd.R_drewN | apply Kd.R_drew)); exact HO_10.out⟩, ⟨by (with_reducible repeat (first | apply Kd.S_alloc | apply Kd.S_drewN | apply Kd.S_drew)); exact Kd.S_mono HO_405001.out (fun _ hk => hk.2)⟩, ⟨by (with_reducible repeat (first | refine blk_drewN ?_ _ | refine blk_drew ?_ | refine blk_alloc ?_ _)); exact BK404.out⟩, ⟨by repeat (first | (with_reducible first | exact HB.out | apply below_alloc | apply pw_below_drewN | apply below_drew1 | refine below_set ?_ GE404.out) | exact HB.out)⟩⟩
                            · rw [if_neg c37] at H
                              exact absurd H (by simp)
                          · rw [if_neg c36] at H
                            exact absurd H (by simp)
                    · rw [if_neg c30] at H
                      exact absurd H (by simp)
                  · rw [if_neg c29] at H
                    have c29b0 : decide (x11_2 < (t406.length : Int)) = false := decide_eq_false c29
                    clear c29
                    have H' := Aside0.mk H
                    clear H
                    obtain ⟨Ao43, co43, eo43⟩ := Kd.R_slice HO_8.out
                    subst eo43
                    go_wp2
                    go_loopg [12] k2 (fun kq v12 w' => ∃ (x12_3 : Int), v12 = .int .i64 x12_3 ∧ Aside0 (tegulalaw21_LayoutSpread.l1 kq t406 t409 x10_2 x12_3 = some r) ∧ Aside0 (kq ≤ k2) ∧ Aside0 (Kd.R k52 52 w' w.heap.size (fun _ => True) (.slice Ao43 t406.length co43) t406) ∧ Aside0 (Kd.R (Kd.int .i64) 3 w' w.heap.size (fun _ => True) v412 x10_2) ∧ Aside0 (Kd.S (Kd.slice 3 (Kd.int .i64)) 56 w' w.heap.size (fun k_ => some k_ ≠ (v412 : Value).ownBlock) (.slice Ao13 t399.length co13) t399) ∧ Aside0 (w'.heap[gb404]? = some (.cells #[.int .i64 t398, (.slice Ao13 t399.length co13), .int .i64 x405002_7, .int .i64 t403] 28 (0, 0))) ∧ Aside0 (Below w.heap.size w w'))
                    case atStart => exact ⟨(0), (by first | rfl | (simp; done) | (simp [*]; done)), H', ⟨Nat.le_refl _⟩, ⟨by (with_reducible repeat (first | apply Kd.R_alloc | apply Kd.R_drewN | apply Kd.R_drew)); exact HO_8.out⟩, ⟨by (with_reducible repeat (first | apply Kd.R_alloc | apply Kd.R_drewN | apply Kd.R_drew)); exact HO_10.out⟩, ⟨by (with_reducible repeat (first | apply Kd.S_alloc | apply Kd.S_drewN | apply Kd.S_drew)); exact HO_405001.out⟩, ⟨by (with_reducible repeat (first | refine blk_drewN ?_ _ | refine blk_drew ?_ | refine blk_alloc ?_ _)); exact BK404.out⟩, ⟨by repeat (first | (with_reducible first | exact HB.out | apply below_alloc | apply pw_below_drewN | apply below_drew1 | refine below_set ?_ GE404.out) | exact HB.out)⟩⟩
                    case round =>
                      clear H'
                      try clear c1
                      try clear c2
                      try clear p2
                      try clear c3
                      try clear p3
                      try clear q3
                      try clear hx3
                      try clear hf3
                      try clear p4
                      try clear q4
                      try clear hx4
                      try clear c5
                      try clear p6
                      try clear c10
                      try clear c13
                      try clear c14
                      try clear c16
                      try clear c18
                      try clear c18b0
                      try clear c18b1
                      try clear c21
                      try clear c21b0
                      try clear c21b1
                      try clear c22
                      try clear c22b0
                      try clear c22b1
                      try clear c23
                      try clear c29
                      try clear c29b0
                      try clear c30
                      try clear c30b0
                      try clear c31
                      try clear c31b0
                      try clear c33
                      try clear c33b0
                      try clear c36
                      try clear c36b0
                      try clear c37
                      try clear c37b0
                      try clear p38
                      try clear q38
                      try clear hx38
                      try clear hf38
                      try clear p41
                      try clear q41
                      try clear hx41
                      try clear hcz12_0
                      try clear hcz12_1
                      try clear hcz12_2
                      try clear hcz12_3
                      try clear hcz15_0
                      try clear hcz15_1
                      try clear hcz15_2
                      try clear hcz15_3
                      try clear hcz17_0
                      try clear hcz17_1
                      try clear hcz17_2
                      try clear hcz17_3
                      try clear hcz25_0
                      try clear hcz25_1
                      try clear hcz25_2
                      try clear hcz25_3
                      try clear hfz12_0
                      try clear hfz12_1
                      try clear hfz12_2
                      try clear hfz12_3
                      try clear hfz15_0
                      try clear hfz15_1
                      try clear hfz15_2
                      try clear hfz15_3
                      try clear hfz17_0
                      try clear hfz17_1
                      try clear hfz17_2
                      try clear hfz17_3
                      try clear hfz25_0
                      try clear hfz25_1
                      try clear hfz25_2
                      try clear hfz25_3
                      try clear hx38_0
                      try clear hx414_0
                      try clear hx414_1
                      try clear hx415_0
                      try clear hx415_1
                      try clear hx416_0
                      try clear hx416_1
                      try clear hx417_0
                      try clear p2
                      try clear p38
                      try clear p414
                      try clear p415
                      try clear p416
                      try clear p417
                      try clear p6
                      try clear q38
                      try clear q414
                      try clear q415
                      try clear q416
                      try clear q417
                      obtain ⟨x12_3, rfl, HA, HK3, HO_8, HO_10, HO_405001, BK404, HB⟩ := hrel
                      cases gk with
                      | zero => exact absurd HA.out (by simp [tegulalaw21_LayoutSpread.l1])
                      | succ k3 =>
                        have H := HA.out
                        clear HA
                        simp only [tegulalaw21_LayoutSpread.l1] at H
                        by_cases c44 : x12_3 < (x10_2.length : Int)
                        · rw [if_pos c44] at H
                          have c44b0 : decide (x12_3 < (x10_2.length : Int)) = true := decide_eq_true c44
                          clear c44
                          by_cases c45 : 0 ≤ x12_3
                          · rw [if_pos c45] at H
                            have c45b0 : decide (0 ≤ x12_3) = true := decide_eq_true c45
                            clear c45
                            by_cases c46 : (wrap64 ((rd x10_2 x12_3) * (x10_2.length : Int))) = (t406.length : Int)
                            · rw [if_pos c46] at H
                              have c46b0 : ((wrap64 ((rd x10_2 x12_3) * (x10_2.length : Int))) == (t406.length : Int)) = true := beq_iff_eq.mpr c46
                              have c46b1 : ((wrap64 ((rd x10_2 x12_3) * (x10_2.length : Int))) != (t406.length : Int)) = false := bne_eq_false_iff_eq.mpr c46
                              clear c46
                              have H' := Aside0.mk H
                              clear H
                              obtain ⟨Ao47, co47, eo47⟩ := Kd.R_slice HO_10.out
                              subst eo47
                              have p419 : 0 ≤ (x12_3 : Int) := of_decide_eq_true (by first | (with_reducible assumption) | assumption)
                              have q419 : x12_3 < (x10_2.length : Int) := of_decide_eq_true (by first | (with_reducible assumption) | assumption)
                              obtain ⟨ad419, e419, hx419_0⟩ := Kd.at_int (Kd.R_reads' HO_10.out).2.2 x12_3 p419 q419
                              cases e419
                              replace p419 := eq_true p419
                              replace q419 := eq_true q419
                              go_wp2
                              go_roundg k3
                              case measure => have := HJ7.out; have := HK2.out; have := HK3.out; omega
                              case rel => exact ⟨(wrap64 (x12_3 + 1)), (by first | rfl | (simp; done) | (simp [*]; done)), H', ⟨by have := HJ7.out; have := HK2.out; have := HK3.out; omega⟩, ⟨by (with_reducible repeat (first | apply Kd.R_alloc | apply Kd.R_drewN | apply Kd.R_drew)); exact HO_8.out⟩, ⟨by (with_reducible repeat (first | apply Kd.R_alloc | apply Kd.R_drewN | apply Kd.R_drew)); exact HO_10.out⟩, ⟨by (with_reducible repeat (first | apply Kd.S_alloc | apply Kd.S_drewN | apply Kd.S_drew)); exact HO_405001.out⟩, ⟨by (with_reducible repeat (first | refine blk_drewN ?_ _ | refine blk_drew ?_ | refine blk_alloc ?_ _)); exact BK404.out⟩, ⟨by repeat (first | (with_reducible first | exact HB.out | apply below_alloc | apply pw_below_drewN | apply below_drew1 | refine below_set ?_ GE404.out) | exact HB.out)⟩⟩
                            · rw [if_neg c46] at H
                              have c46b0 : ((wrap64 ((rd x10_2 x12_3) * (x10_2.length : Int))) == (t406.length : Int)) = false := beq_eq_false_iff_ne.mpr c46
                              have c46b1 : ((wrap64 ((rd x10_2 x12_3) * (x10_2.length : Int))) != (t406.length : Int)) = true := bne_iff_ne.mpr c46
                              obtain rfl := Option.some.inj H
                              obtain ⟨Ao48, co48, eo48⟩ := Kd.R_slice HO_10.out
                              subst eo48
                              have p419 : 0 ≤ (x12_3 : Int) := of_decide_eq_true (by first | (with_reducible assumption) | assumption)
                              have q419 : x12_3 < (x10_2.length : Int) := of_decide_eq_true (by first | (with_reducible assumption) | assumption)
                              obtain ⟨ad419, e419, hx419_0⟩ := Kd.at_int (Kd.R_reads' HO_10.out).2.2 x12_3 p419 q419
                              cases e419
                              replace p419 := eq_true p419
                              replace q419 := eq_true q419
                              go_wp2
                              go_ret
                              exact ⟨by first | rfl | (simp [errW_none, errW_some] <;> rfl) | (simp [*, errW_none, errW_some] <;> rfl), by repeat (first | (with_reducible first | exact HB.out | apply below_alloc | apply pw_below_drewN | apply below_drew1 | refine below_set ?_ GE404.out) | exact HB.out)⟩
                          · rw [if_neg c45] at H
                            exact absurd H (by simp)
                        · rw [if_neg c44] at H
                          have c44b0 : decide (x12_3 < (x10_2.length : Int)) = false := decide_eq_false c44
                          clear c44
                          by_cases c49 : t409 = 0
                          · rw [if_pos c49] at H
                            have c49b0 : (t409 == 0) = true := beq_iff_eq.mpr c49
                            have c49b1 : (t409 != 0) = false := bne_eq_false_iff_eq.mpr c49
                            clear c49
                            obtain rfl := Option.some.inj H
                            obtain ⟨Ao50, co50, eo50⟩ := Kd.R_slice HO_10.out
                            subst eo50
                            go_wp2
                            go_ret
                            exact ⟨by first | rfl | (simp [errW_none, errW_some] <;> rfl) | (simp [*, errW_none, errW_some] <;> rfl), by repeat (first | (with_reducible first | exact HB.out | apply below_alloc | apply pw_below_drewN | apply below_drew1 | refine below_set ?_ GE404.out) | exact HB.out)⟩
                          · rw [if_neg c49] at H
                            have c49b0 : (t409 == 0) = false := beq_eq_false_iff_ne.mpr c49
                            have c49b1 : (t409 != 0) = true := bne_iff_ne.mpr c49
                            obtain rfl := Option.some.inj H
                            obtain ⟨Ao51, co51, eo51⟩ := Kd.R_slice HO_10.out
                            subst eo51
                            go_wp2
                            go_ret
                            exact ⟨by first | rfl | (simp [errW_none, errW_some] <;> rfl) | (simp [*, errW_none, errW_some] <;> rfl), by repeat (first | (with_reducible first | exact HB.out | apply below_alloc | apply pw_below_drewN | apply below_drew1 | refine below_set ?_ GE404.out) | exact HB.out)⟩
            · rw [if_neg c22] at H
              exact absurd H (by simp)
          · rw [if_neg c21] at H
            exact absurd H (by simp)
  · replace c5 := Bool.eq_false_iff.mpr c5
    subst c5
    have H1 : (some false) = some r := by rw [if_neg (show ¬ (false = true) by decide)] at H; exact H
    clear H
    have H := H1
    clear H1
    obtain rfl := Option.some.inj H
    go_enter Try.func10, Try.ntmps10
    go_wp2_with (first | ((with_reducible refine gate_callee (f := 13) rfl ?_); refine goesL_ (some 13) rfl rfl Try.func13 (by kernel_rfl) rfl #[] rfl (by (try simp only [List.map_toArray, List.map_cons, List.map_nil]); first | done | rfl | (simp only [List.length_drop, List.length_take]; rfl)) ?_; (with_reducible refine (tegulalaw21_awake.calls  false _ A4.out).mono ?_); rintro e w52 ⟨rfl, hb⟩; refine ⟨_, rfl, ?_⟩; have n0_ := Aside0.mk (below_step (by repeat (first | (with_reducible first | exact HB.out | apply below_alloc | apply pw_below_drewN | apply below_drew1) | exact HB.out)) hb); clear HB; have HB := n0_; clear n0_; (try clear hb); (try clear hb2); (try clear hk); (try clear hi)))
    go_ret
    exact ⟨by first | rfl | (simp [errW_none, errW_some] <;> rfl) | (simp [*, errW_none, errW_some] <;> rfl), by repeat (first | (with_reducible first | exact HB.out | apply below_alloc | apply pw_below_drewN | apply below_drew1) | exact HB.out)⟩

/-- THE ONE PURE STATEMENT of tegulalaw21_LayoutSpread: yours. -/
def tegulalaw21_LayoutSpread.Pure : Prop := ∀ (a0 : Int) (a1 : Int) (a2 : Bool), (Lit.int .u16 a0).wf = true → (Lit.int .u8 a1).wf = true → ∃ k, tegulalaw21_LayoutSpread.f k a0 a1 a2 = some true
theorem tegulalaw21_LayoutSpread.walk (P : tegulalaw21_LayoutSpread.Pure) (a0 : Int) (a1 : Int) (a2 : Bool) (w : World) (w0 : (Lit.int .u16 a0).wf = true) (w1 : (Lit.int .u8 a1).wf = true) :
    Calls Try.prog 10 #[.int .u16 a0, .int .u8 a1, .bool a2] w fun e w' => e = .returned (.bool true) ∧ Below w.heap.size w w' := by
  obtain ⟨k, h⟩ := P a0 a1 a2 w0 w1
  refine (tegulalaw21_LayoutSpread.calls k a0 a1 a2 true w h).mono ?_
  rintro e w' ⟨rfl, hd⟩
  exact ⟨rfl, hd⟩

end Go.Proofs.Ytebnladkogkpfaa.Q
