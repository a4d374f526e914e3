-- Written by a program of this session (wip/tools/drv.py) for this claim: what the Go functions do, as Lean functions, and the walks.
import Derived.Test.YtebnladkogkpfaaQ0
import Derived.Test.YtebnladkogkpfaaQ7
import Derived.Test.YtebnladkogkpfaaQ10
import Derived.Test.YtebnladkogkpfaaQ11
import Derived.Test.YtebnladkogkpfaaQ15
import Derived.Test.YtebnladkogkpfaaQ19
import Derived.Test.YtebnladkogkpfaaQ27
namespace Go.Proofs.Ytebnladkogkpfaa.Q
open Go.RowKit Go.Proofs.YtebnladkogkpfaaW.PrintWords Go.Proofs.YtebnladkogkpfaaW.PrintLast Go.Proofs.YtebnladkogkpfaaW.PrintMore
attribute [local go_sem] max2_int min2_int max_two min_two max_three min_three max_four min_four   -- for this text's walks alone
set_option linter.unusedVariables false
set_option linter.unusedSimpArgs false

/-! ### tegulalaw21_LayoutFull: function 6 -/
mutual
def tegulalaw21_LayoutFull.j0 : Nat → Int → Bool → Int → List (List Int) → Int → Int → Option (Bool)
  | 0, _, _, _, _, _, _ => none
  | k + 1, x4, x26, x312000, x312001, x312002, x312003 => if x26 = true then (some false) else (if 0 ≤ (wrap64 (x312000 * x4)) then (if (wrap64 (x312000 * x4) : Int).toNat ≤ 281474976710656 then (tegulalaw21_LayoutFull.l0 k x4 (List.replicate (wrap64 (x312000 * x4) : Int).toNat false) 0 x312000 x312001 x312002 x312003) else (none)) else (none))
def tegulalaw21_LayoutFull.l0 : Nat → Int → List Bool → Int → Int → List (List Int) → Int → Int → Option (Bool)
  | 0, _, _, _, _, _, _, _ => none
  | k + 1, x4, x5, x6, x312000, x312001, x312002, x312003 => (layout_Groups.f x312000 x312001 x312002 x312003).bind fun t316 => (if x6 < t316 then (tegulalaw21_LayoutFull.l1 k x4 x5 x6 0 x312000 x312001 x312002 x312003) else (tegulalaw21_LayoutFull.l2 k x5 0))
def tegulalaw21_LayoutFull.l1 : Nat → Int → List Bool → Int → Int → Int → List (List Int) → Int → Int → Option (Bool)
  | 0, _, _, _, _, _, _, _, _ => none
  | k + 1, x4, x5, x6, x7, x312000, x312001, x312002, x312003 => (layout_Width.f x312000 x312001 x312002 x312003).bind fun t317 => (if x7 < t317 then ((layout_Home.f x312000 x312001 x312002 x312003 x6 x7).bind fun bt318 => (if bt318.2.2 = 0 then (if bt318.2.1 < 0 then (some false) else (if bt318.2.1 ≥ x4 then (some false) else (if (wrap64 ((wrap64 (bt318.1 * x4)) + bt318.2.1)) < 0 then (some false) else (if (wrap64 ((wrap64 (bt318.1 * x4)) + bt318.2.1)) ≥ (x5.length : Int) then (some false) else (if 0 ≤ (wrap64 ((wrap64 (bt318.1 * x4)) + bt318.2.1)) then (if (wrap64 ((wrap64 (bt318.1 * x4)) + bt318.2.1)) < (x5.length : Int) then (if rdOf false x5 (wrap64 ((wrap64 (bt318.1 * x4)) + bt318.2.1)) = true then (some false) else (tegulalaw21_LayoutFull.l1 k x4 (x5.set ((wrap64 ((wrap64 (bt318.1 * x4)) + bt318.2.1)) : Int).toNat true) x6 (wrap64 (x7 + 1)) x312000 x312001 x312002 x312003)) else (none)) else (none)))))) else (some false))) else (tegulalaw21_LayoutFull.l0 k x4 x5 (wrap64 (x6 + 1)) x312000 x312001 x312002 x312003))
def tegulalaw21_LayoutFull.l2 : Nat → List Bool → Int → Option (Bool)
  | 0, _, _ => none
  | k + 1, x5, x11 => if x11 < (x5.length : Int) then (if 0 ≤ x11 then (if rdOf false x5 x11 = true then (tegulalaw21_LayoutFull.l2 k x5 (wrap64 (x11 + 1))) else (some false)) else (none)) else (some true)
end
def tegulalaw21_LayoutFull.f (k : Nat) (a0 : Int) : Option (Bool) := (tegulalaw21_awake.f).bind fun t304 => (if t304 = true then ((tegularef21_Small.f k a0).bind fun bt305 => ((layout_Blocks.f bt305.1 bt305.2.1 bt305.2.2.1 bt305.2.2.2).bind fun t312 => (if (wrap64 (t312 - bt305.2.2.2)) < 1 then (tegulalaw21_LayoutFull.j0 k (wrap64 (t312 - bt305.2.2.2)) true bt305.1 bt305.2.1 bt305.2.2.1 bt305.2.2.2) else (tegulalaw21_LayoutFull.j0 k (wrap64 (t312 - bt305.2.2.2)) (decide ((wrap64 (t312 - bt305.2.2.2)) > 200)) bt305.1 bt305.2.1 bt305.2.2.1 bt305.2.2.2)))) else (some false))
theorem tegulalaw21_LayoutFull.mono_l : ∀ k, (∀ y0 y1 y2 y3 y4 y5, LeO (tegulalaw21_LayoutFull.j0 k y0 y1 y2 y3 y4 y5) (tegulalaw21_LayoutFull.j0 (k + 1) y0 y1 y2 y3 y4 y5)) ∧ (∀ y0 y1 y2 y3 y4 y5 y6, LeO (tegulalaw21_LayoutFull.l0 k y0 y1 y2 y3 y4 y5 y6) (tegulalaw21_LayoutFull.l0 (k + 1) y0 y1 y2 y3 y4 y5 y6)) ∧ (∀ y0 y1 y2 y3 y4 y5 y6 y7, LeO (tegulalaw21_LayoutFull.l1 k y0 y1 y2 y3 y4 y5 y6 y7) (tegulalaw21_LayoutFull.l1 (k + 1) y0 y1 y2 y3 y4 y5 y6 y7)) ∧ (∀ y0 y1, LeO (tegulalaw21_LayoutFull.l2 k y0 y1) (tegulalaw21_LayoutFull.l2 (k + 1) y0 y1))
  | 0 => ⟨fun _ _ _ _ _ _ r h => by simp [tegulalaw21_LayoutFull.j0] at h, fun _ _ _ _ _ _ _ r h => by simp [tegulalaw21_LayoutFull.l0] at h, fun _ _ _ _ _ _ _ _ r h => by simp [tegulalaw21_LayoutFull.l1] at h, fun _ _ r h => by simp [tegulalaw21_LayoutFull.l2] at h⟩
  | k + 1 => by
    obtain ⟨ih0, ih1, ih2, ih3⟩ := tegulalaw21_LayoutFull.mono_l k
    refine ⟨?_, ?_, ?_, ?_⟩
    · intro y0 y1 y2 y3 y4 y5
      unfold tegulalaw21_LayoutFull.j0
      repeat' first
      | (with_reducible exact ih0 _ _ _ _ _ _)
      | (with_reducible exact ih1 _ _ _ _ _ _ _)
      | (with_reducible exact ih2 _ _ _ _ _ _ _ _)
      | (with_reducible exact ih3 _ _)
      | (with_reducible exact tegularef21_Small.mono _ _)
      | (with_reducible exact LeO.refl _)
      | (with_reducible exact LeO.none _)
      | (with_reducible refine LeO.ite ?_ ?_)
      | (with_reducible refine LeO.bind ?_ (fun _ => ?_))
      | exact ih0 _ _ _ _ _ _
      | exact ih1 _ _ _ _ _ _ _
      | exact ih2 _ _ _ _ _ _ _ _
      | exact ih3 _ _
      | exact tegularef21_Small.mono _ _
      | exact LeO.none _
      | refine LeO.ite ?_ ?_
      | refine LeO.bind ?_ (fun _ => ?_)
    · intro y0 y1 y2 y3 y4 y5 y6
      unfold tegulalaw21_LayoutFull.l0
      repeat' first
      | (with_reducible exact ih0 _ _ _ _ _ _)
      | (with_reducible exact ih1 _ _ _ _ _ _ _)
      | (with_reducible exact ih2 _ _ _ _ _ _ _ _)
      | (with_reducible exact ih3 _ _)
      | (with_reducible exact tegularef21_Small.mono _ _)
      | (with_reducible exact LeO.refl _)
      | (with_reducible exact LeO.none _)
      | (with_reducible refine LeO.ite ?_ ?_)
      | (with_reducible refine LeO.bind ?_ (fun _ => ?_))
      | exact ih0 _ _ _ _ _ _
      | exact ih1 _ _ _ _ _ _ _
      | exact ih2 _ _ _ _ _ _ _ _
      | exact ih3 _ _
      | exact tegularef21_Small.mono _ _
      | exact LeO.none _
      | refine LeO.ite ?_ ?_
      | refine LeO.bind ?_ (fun _ => ?_)
    · intro y0 y1 y2 y3 y4 y5 y6 y7
      unfold tegulalaw21_LayoutFull.l1
      repeat' first
      | (with_reducible exact ih0 _ _ _ _ _ _)
      | (with_reducible exact ih1 _ _ _ _ _ _ _)
      | (with_reducible exact ih2 _ _ _ _ _ _ _ _)
      | (with_reducible exact ih3 _ _)
      | (with_reducible exact tegularef21_Small.mono _ _)
      | (with_reducible exact LeO.refl _)
      | (with_reducible exact LeO.none _)
      | (with_reducible refine LeO.ite ?_ ?_)
      | (with_reducible refine LeO.bind ?_ (fun _ => ?_))
      | exact ih0 _ _ _ _ _ _
      | exact ih1 _ _ _ _ _ _ _
      | exact ih2 _ _ _ _ _ _ _ _
      | exact ih3 _ _
      | exact tegularef21_Small.mono _ _
      | exact LeO.none _
      | refine LeO.ite ?_ ?_
      | refine LeO.bind ?_ (fun _ => ?_)
    · intro y0 y1
      unfold tegulalaw21_LayoutFull.l2
      repeat' first
      | (with_reducible exact ih0 _ _ _ _ _ _)
      | (with_reducible exact ih1 _ _ _ _ _ _ _)
      | (with_reducible exact ih2 _ _ _ _ _ _ _ _)
      | (with_reducible exact ih3 _ _)
      | (with_reducible exact tegularef21_Small.mono _ _)
      | (with_reducible exact LeO.refl _)
      | (with_reducible exact LeO.none _)
      | (with_reducible refine LeO.ite ?_ ?_)
      | (with_reducible refine LeO.bind ?_ (fun _ => ?_))
      | exact ih0 _ _ _ _ _ _
      | exact ih1 _ _ _ _ _ _ _
      | exact ih2 _ _ _ _ _ _ _ _
      | exact ih3 _ _
      | exact tegularef21_Small.mono _ _
      | exact LeO.none _
      | refine LeO.ite ?_ ?_
      | refine LeO.bind ?_ (fun _ => ?_)
theorem tegulalaw21_LayoutFull.mono : ∀ a0 k, LeO (tegulalaw21_LayoutFull.f k a0) (tegulalaw21_LayoutFull.f (k + 1) a0) := by
  intro a0 k
  obtain ⟨ih0, ih1, ih2, ih3⟩ := tegulalaw21_LayoutFull.mono_l k
  unfold tegulalaw21_LayoutFull.f
  repeat' first
      | (with_reducible exact ih0 _ _ _ _ _ _)
      | (with_reducible exact ih1 _ _ _ _ _ _ _)
      | (with_reducible exact ih2 _ _ _ _ _ _ _ _)
      | (with_reducible exact ih3 _ _)
      | (with_reducible exact tegularef21_Small.mono _ _)
      | (with_reducible exact LeO.refl _)
      | (with_reducible exact LeO.none _)
      | (with_reducible refine LeO.ite ?_ ?_)
      | (with_reducible refine LeO.bind ?_ (fun _ => ?_))
      | exact ih0 _ _ _ _ _ _
      | exact ih1 _ _ _ _ _ _ _
      | exact ih2 _ _ _ _ _ _ _ _
      | exact ih3 _ _
      | exact tegularef21_Small.mono _ _
      | exact LeO.none _
      | refine LeO.ite ?_ ?_
      | refine LeO.bind ?_ (fun _ => ?_)
set_option maxHeartbeats 8000000 in
set_option maxRecDepth 100000 in
theorem tegulalaw21_LayoutFull.calls (k : Nat) (a0 : Int) (r : Bool) (w : World) (h : tegulalaw21_LayoutFull.f k a0 = some r) :
    Calls Try.prog 6 #[.int .u16 a0] w fun e w' => e = .returned (.bool r) ∧ Below w.heap.size w w' := by
  have hu28 := Try.underlying28
  have hu31 := Try.underlying31
  have HB := Aside0.mk (Below.refl w.heap.size w)
  have H : ((tegulalaw21_awake.f).bind fun t304 => (if t304 = true then ((tegularef21_Small.f k a0).bind fun bt305 => ((layout_Blocks.f bt305.1 bt305.2.1 bt305.2.2.1 bt305.2.2.2).bind fun t312 => (if (wrap64 (t312 - bt305.2.2.2)) < 1 then (tegulalaw21_LayoutFull.j0 k (wrap64 (t312 - bt305.2.2.2)) true bt305.1 bt305.2.1 bt305.2.2.1 bt305.2.2.2) else (tegulalaw21_LayoutFull.j0 k (wrap64 (t312 - bt305.2.2.2)) (decide ((wrap64 (t312 - bt305.2.2.2)) > 200)) bt305.1 bt305.2.1 bt305.2.2.1 bt305.2.2.2)))) else (some false))) = some r := h
  clear h
  replace H := Option.bind_eq_some_iff.mp H
  obtain ⟨t304, A20, H⟩ := H
  replace H : (if t304 = true then ((tegularef21_Small.f k a0).bind fun bt305 => ((layout_Blocks.f bt305.1 bt305.2.1 bt305.2.2.1 bt305.2.2.2).bind fun t312 => (if (wrap64 (t312 - bt305.2.2.2)) < 1 then (tegulalaw21_LayoutFull.j0 k (wrap64 (t312 - bt305.2.2.2)) true bt305.1 bt305.2.1 bt305.2.2.1 bt305.2.2.2) else (tegulalaw21_LayoutFull.j0 k (wrap64 (t312 - bt305.2.2.2)) (decide ((wrap64 (t312 - bt305.2.2.2)) > 200)) bt305.1 bt305.2.1 bt305.2.2.1 bt305.2.2.2)))) else (some false)) = some r := H
  have A2 := Aside0.mk A20
  clear A20
  by_cases c3 : t304 = true
  · subst c3
    have H1 : ((tegularef21_Small.f k a0).bind fun bt305 => ((layout_Blocks.f bt305.1 bt305.2.1 bt305.2.2.1 bt305.2.2.2).bind fun t312 => (if (wrap64 (t312 - bt305.2.2.2)) < 1 then (tegulalaw21_LayoutFull.j0 k (wrap64 (t312 - bt305.2.2.2)) true bt305.1 bt305.2.1 bt305.2.2.1 bt305.2.2.2) else (tegulalaw21_LayoutFull.j0 k (wrap64 (t312 - bt305.2.2.2)) (decide ((wrap64 (t312 - bt305.2.2.2)) > 200)) bt305.1 bt305.2.1 bt305.2.2.1 bt305.2.2.2)))) = some r := by rw [if_pos rfl] at H; exact H
    clear H
    have H := H1
    clear H1
    replace H := Option.bind_eq_some_iff.mp H
    obtain ⟨⟨t305, t306, t309, t310⟩, A40, H⟩ := H
    replace H : ((layout_Blocks.f t305 t306 t309 t310).bind fun t312 => (if (wrap64 (t312 - t310)) < 1 then (tegulalaw21_LayoutFull.j0 k (wrap64 (t312 - t310)) true t305 t306 t309 t310) else (tegulalaw21_LayoutFull.j0 k (wrap64 (t312 - t310)) (decide ((wrap64 (t312 - t310)) > 200)) t305 t306 t309 t310))) = some r := H
    have A4 := Aside0.mk A40
    clear A40
    replace H := Option.bind_eq_some_iff.mp H
    obtain ⟨t312, A50, H⟩ := H
    replace H : (if (wrap64 (t312 - t310)) < 1 then (tegulalaw21_LayoutFull.j0 k (wrap64 (t312 - t310)) true t305 t306 t309 t310) else (tegulalaw21_LayoutFull.j0 k (wrap64 (t312 - t310)) (decide ((wrap64 (t312 - t310)) > 200)) t305 t306 t309 t310)) = some r := H
    have A5 := Aside0.mk A50
    clear A50
    have HC6 := Aside0.mk H
    clear H
    go_enter Try.func6, Try.ntmps6
    try go_wp2_with (first | ((with_reducible refine gate_callee (f := 13) rfl ?_); refine goesL_ (some 12) rfl rfl Try.func13 (by kernel_rfl) rfl #[] rfl (by (try simp only [List.map_toArray, List.map_cons, List.map_nil]); first | done | rfl | (simp only [List.length_drop, List.length_take]; rfl)) ?_; (with_reducible refine (tegulalaw21_awake.calls  true _ A2.out).mono ?_); rintro e w7 ⟨rfl, hb⟩; refine ⟨_, rfl, ?_⟩; have n0_ := Aside0.mk (below_step (by repeat (first | (with_reducible first | exact HB.out | apply below_alloc | apply pw_below_drewN | apply below_drew1) | exact HB.out)) hb); clear HB; have HB := n0_; clear n0_; (try clear hb); (try clear hb2); (try clear hk); (try clear hi)) | ((with_reducible refine gate_callee (f := 14) rfl ?_); refine goesL_ (some 15) rfl rfl Try.func14 (by kernel_rfl) rfl #[.int .u16 a0] rfl (by (try simp only [List.map_toArray, List.map_cons, List.map_nil]); first | done | rfl | (simp only [List.length_drop, List.length_take]; rfl)) ?_; (with_reducible refine (tegularef21_Small.calls k a0 t305 t306 t309 t310 _ A4.out).mono ?_); rintro e w8 ⟨v307, rfl, ho0, hb⟩; refine ⟨_, rfl, ?_⟩; have n0_ := Aside0.mk (Kd.S_lower ho0 (below_size (by repeat (first | (with_reducible first | exact HB.out | apply below_alloc | apply pw_below_drewN | apply below_drew1) | exact HB.out)))); have n1_ := Aside0.mk (below_step (by repeat (first | (with_reducible first | exact HB.out | apply below_alloc | apply pw_below_drewN | apply below_drew1) | exact HB.out)) hb); clear HB; have HO308 := n0_; have HB := n1_; clear n0_ n1_; (try clear hb); (try clear hb2); (try clear hk); (try clear hi); (try clear ho0)) | ((with_reducible refine gate_dst (N := 3) rfl ?_); (try (refine gate_guard (by rfl) ?_; dsimp only)); refine box_event ?hg (N := 3) ?hd (cs := #[.int .i64 0, .slice none 0 0, .int .i64 0, .int .i64 0]) (t := 28) ?hr ?_; (case hd => rfl); (case hg => rfl); (case hr => first | (go_simp; done) | (go_simp; rfl)); intro gb311 hg w9 hbox hb; have n0_ := Aside0.mk (Kd.S_below (by (with_reducible repeat (first | apply Kd.S_alloc | apply Kd.S_drewN | apply Kd.S_drew)); exact HO308.out) hb); have n1_ := Aside0.mk (below_step (by repeat (first | (with_reducible first | exact HB.out | apply below_alloc | apply pw_below_drewN | apply below_drew1) | exact HB.out)) hb); have n2_ := Aside0.mk (hbox); have n3_ := Aside0.mk ((by rw [hg]; exact (below_size (by repeat (first | (with_reducible first | exact HB.out | apply below_alloc | apply pw_below_drewN | apply below_drew1) | exact HB.out))) : w.heap.size ≤ gb311)); have n4_ := Aside0.mk ((by rw [hg]; exact (below_size (by repeat (first | (with_reducible first | exact HB.out | apply below_alloc | apply pw_below_drewN | apply below_drew1) | exact HB.out))) : w.heap.size ≤ gb311)); clear HO308; clear HB; have HO308 := n0_; have HB := n1_; have BK311 := n2_; have GW311 := n3_; have GE311 := n4_; clear n0_ n1_ n2_ n3_ n4_; clear hb hbox hg; have hcz10_0 : w9.cell? ⟨gb311, 0, none⟩ = some (.int .i64 0) := (blk_cell BK311.out 0).trans rfl; have hcz10_1 : w9.cell? ⟨gb311, 1, none⟩ = some (.slice none 0 0) := (blk_cell BK311.out 1).trans rfl; have hcz10_2 : w9.cell? ⟨gb311, 2, none⟩ = some (.int .i64 0) := (blk_cell BK311.out 2).trans rfl; have hcz10_3 : w9.cell? ⟨gb311, 3, none⟩ = some (.int .i64 0) := (blk_cell BK311.out 3).trans rfl; have hfz10_0 := blk_frozen BK311.out 0; have hfz10_1 := blk_frozen BK311.out 1; have hfz10_2 := blk_frozen BK311.out 2; have hfz10_3 := blk_frozen BK311.out 3; obtain ⟨Ao11, co11, eo11⟩ := Kd.S_slice HO308.out; subst eo11))
    have n0_ : Aside0 (Kd.S (Kd.slice 3 (Kd.int .i64)) 56 ((((w9.setCell ⟨gb311, 0, none⟩ (.int .i64 t305)).setCell ⟨gb311, 1, none⟩ (.slice Ao11 t306.length co11)).setCell ⟨gb311, 2, none⟩ (.int .i64 t309)).setCell ⟨gb311, 3, none⟩ (.int .i64 t310)) w.heap.size (fun _ => True) (.slice Ao11 t306.length co11) t306) := ⟨by (with_reducible repeat (first | apply Kd.S_alloc | apply Kd.S_drewN | apply Kd.S_drew)); exact Kd.S_mono (Kd.S_far (p := ⟨gb311, 3, none⟩) (Kd.S_far (p := ⟨gb311, 2, none⟩) (Kd.S_far (p := ⟨gb311, 1, none⟩) (Kd.S_far (p := ⟨gb311, 0, none⟩) (Kd.S_types HO308.out BK311.out (by decide)) (fun _ hk => hk.2) (.int .i64 t305)) (fun _ hk => hk.2) (.slice Ao11 t306.length co11)) (fun _ hk => hk.2) (.int .i64 t309)) (fun _ hk => hk.2) (.int .i64 t310)) (fun _ hk => trivial)⟩
    have n1_ : Aside0 (((((w9.setCell ⟨gb311, 0, none⟩ (.int .i64 t305)).setCell ⟨gb311, 1, none⟩ (.slice Ao11 t306.length co11)).setCell ⟨gb311, 2, none⟩ (.int .i64 t309)).setCell ⟨gb311, 3, none⟩ (.int .i64 t310)).heap[gb311]? = some (.cells #[.int .i64 t305, .slice Ao11 t306.length co11, .int .i64 t309, .int .i64 t310] 28 (0, 0))) := ⟨by (with_reducible repeat (first | refine blk_drewN ?_ _ | refine blk_drew ?_ | refine blk_alloc ?_ _)); refine blk_put (cs := #[.int .i64 t305, .slice Ao11 t306.length co11, .int .i64 t309, .int .i64 0]) ?_ 3 _ rfl; (with_reducible repeat (first | refine blk_drewN ?_ _ | refine blk_drew ?_ | refine blk_alloc ?_ _)); refine blk_put (cs := #[.int .i64 t305, .slice Ao11 t306.length co11, .int .i64 0, .int .i64 0]) ?_ 2 _ rfl; (with_reducible repeat (first | refine blk_drewN ?_ _ | refine blk_drew ?_ | refine blk_alloc ?_ _)); refine blk_put (cs := #[.int .i64 t305, .slice none 0 0, .int .i64 0, .int .i64 0]) ?_ 1 _ rfl; (with_reducible repeat (first | refine blk_drewN ?_ _ | refine blk_drew ?_ | refine blk_alloc ?_ _)); refine blk_put (cs := #[.int .i64 0, .slice none 0 0, .int .i64 0, .int .i64 0]) ?_ 0 _ rfl; (with_reducible repeat (first | refine blk_drewN ?_ _ | refine blk_drew ?_ | refine blk_alloc ?_ _)); exact BK311.out⟩
    have n2_ : Aside0 (Below w.heap.size w ((((w9.setCell ⟨gb311, 0, none⟩ (.int .i64 t305)).setCell ⟨gb311, 1, none⟩ (.slice Ao11 t306.length co11)).setCell ⟨gb311, 2, none⟩ (.int .i64 t309)).setCell ⟨gb311, 3, none⟩ (.int .i64 t310))) := ⟨by repeat (first | (with_reducible first | exact HB.out | apply below_alloc | apply pw_below_drewN | apply below_drew1 | refine below_set ?_ GE311.out) | exact HB.out)⟩
    (try clear HO308)
    (try clear BK311)
    (try clear HB)
    generalize ((((w9.setCell ⟨gb311, 0, none⟩ (.int .i64 t305)).setCell ⟨gb311, 1, none⟩ (.slice Ao11 t306.length co11)).setCell ⟨gb311, 2, none⟩ (.int .i64 t309)).setCell ⟨gb311, 3, none⟩ (.int .i64 t310)) = w12 at n0_ n1_ n2_ ⊢
    have HO308 := n0_
    have BK311 := n1_
    have HB := n2_
    clear n0_ n1_ n2_
    have n0_ := Aside0.mk (Kd.S_drew HO308.out)
    have n1_ := Aside0.mk (blk_drew BK311.out)
    have n2_ := Aside0.mk (below_drew1 HB.out)
    clear HO308
    clear BK311
    clear HB
    have HO308 := n0_
    have BK311 := n1_
    have HB := n2_
    clear n0_ n1_ n2_
    refine start_ (n := 6) (S := fun w' => w'.cell? ⟨gb311, 0, none⟩ = some (.int .i64 t305) ∧ w'.cell? ⟨gb311, 1, none⟩ = some (.slice Ao11 t306.length co11) ∧ w'.cell? ⟨gb311, 2, none⟩ = some (.int .i64 t309) ∧ w'.cell? ⟨gb311, 3, none⟩ = some (.int .i64 t310)) (ds := []) #[false, false, false, false, false, false] (by kernel_rfl) rfl rfl ⟨(blk_cell BK311.out 0).trans rfl, (blk_cell BK311.out 1).trans rfl, (blk_cell BK311.out 2).trans rfl, (blk_cell BK311.out 3).trans rfl⟩ (fun hHeld => ?_)
    generalize w12.drew = w13 at HO308 BK311 HB hHeld ⊢
    refine pure_ (i := 2) (N := some 18) (v := ?_) (a' := ?_) #[false, false, true, false, false, false] rfl rfl (by kernel_rfl) (fun _ _ _ h => h) (Or.inl ⟨by rfl, ?_⟩) ?_ ?_
    rotate_left
    · intro w'
      go_simp
      with_reducible rfl
    rotate_left
    · simp only [Act.put, List.setIfInBounds_toArray, List.set_cons_zero, List.set_cons_succ, i64_w, i32_w]
      rfl
    refine take_ (i := 0) (N := some 16) (v := ?_) (a' := ?_) #[true, false, true, false, false, false] rfl rfl (by kernel_rfl) (fun _ _ _ h => h) (Or.inl ⟨by rfl, ?_⟩) hHeld ?_ ?_
    rotate_left
    · rintro w' ⟨s0, s1, s2, s3⟩
      go_simp
      with_reducible rfl
    rotate_left
    · simp only [Act.put, List.setIfInBounds_toArray, List.set_cons_zero, List.set_cons_succ, i64_w, i32_w]
      rfl
    refine take_ (i := 3) (N := some 19) (v := ?_) (a' := ?_) #[true, false, true, true, false, false] rfl rfl (by kernel_rfl) (fun _ _ _ h => h) (Or.inl ⟨by rfl, ?_⟩) hHeld ?_ ?_
    rotate_left
    · rintro w' ⟨s0, s1, s2, s3⟩
      go_simp
      with_reducible rfl
    rotate_left
    · simp only [Act.put, List.setIfInBounds_toArray, List.set_cons_zero, List.set_cons_succ, i64_w, i32_w]
      rfl
    refine one_ (i := 1) (N := some 17) #[true, true, true, true, false, false] rfl rfl (by kernel_rfl) (by decide) (fun K hK => ?_)
    refine goes_ Try.func24 (by kernel_rfl) rfl #[.agg #[.int .i64 t305, .slice Ao11 t306.length co11, .int .i64 t309, .int .i64 t310]] (by rfl) rfl rfl (by (try simp only [List.map_toArray, List.map_cons, List.map_nil]); first | done | rfl | (simp only [List.length_drop, List.length_take]; rfl)) ?_
    with_reducible refine (layout_Blocks.calls t305 _ _ t306 t309 t310 t312 _ ?side1 ?side2 A5.out).mono ?_
    (case side1 => repeat (first | exact (Kd.S_reads' HO308.out).2.2 | (with_reducible refine Kd.C_alloc ?_ _) | (with_reducible refine Kd.C_drewN ?_ _) | (with_reducible refine Kd.C_drew ?_)))
    (case side2 => exact (Kd.S_reads' HO308.out).2.1)
    rintro e w14 ⟨rfl, hb⟩
    refine ⟨_, rfl, ?_⟩
    have n0_ := Aside0.mk (Kd.S_below (by (with_reducible repeat (first | apply Kd.S_alloc | apply Kd.S_drewN | apply Kd.S_drew)); exact HO308.out) hb)
    have n1_ := Aside0.mk (blk_below (g := gb311) (o := .cells #[.int .i64 t305, .slice Ao11 t306.length co11, .int .i64 t309, .int .i64 t310] 28 (0, 0)) (by (with_reducible repeat (first | refine blk_drewN ?_ _ | refine blk_drew ?_ | refine blk_alloc ?_ _)); exact BK311.out) hb)
    have n2_ := Aside0.mk (below_step (by repeat (first | (with_reducible first | exact HB.out | apply below_alloc | apply pw_below_drewN | apply below_drew1 | refine below_set ?_ GE311.out) | exact HB.out)) hb)
    clear HO308
    clear BK311
    clear HB
    have HO308 := n0_
    have BK311 := n1_
    have HB := n2_
    clear n0_ n1_ n2_
    (try clear hb)
    (try clear hb2)
    (try clear hk)
    (try clear hi)
    refine hK.out _ _ ⟨(blk_cell BK311.out 0).trans rfl, (blk_cell BK311.out 1).trans rfl, (blk_cell BK311.out 2).trans rfl, (blk_cell BK311.out 3).trans rfl⟩ (fun hHeld => ?_)
    clear hK K
    refine norm_ (a' := ?_) ?_ ?_
    rotate_left
    · show Act.put _ (some 17) _ = _
      simp only [Act.put, List.setIfInBounds_toArray, List.set_cons_zero, List.set_cons_succ, i64_w, i32_w]
      rfl
    refine pure_ (i := 4) (N := some 20) (v := ?_) (a' := ?_) #[true, true, true, true, true, false] rfl rfl (by kernel_rfl) (fun _ _ _ h => h) (Or.inl ⟨by rfl, ?_⟩) ?_ ?_
    rotate_left
    · intro w'
      go_simp
      with_reducible rfl
    rotate_left
    · simp only [Act.put, List.setIfInBounds_toArray, List.set_cons_zero, List.set_cons_succ, i64_w, i32_w]
      rfl
    refine pure_ (i := 5) (N := some 4) (v := ?_) (a' := ?_) #[true, true, true, true, true, true] rfl rfl (by kernel_rfl) (fun _ _ _ h => h) (Or.inl ⟨by rfl, ?_⟩) ?_ ?_
    rotate_left
    · intro w'
      go_simp
      with_reducible rfl
    rotate_left
    · simp only [Act.put, List.setIfInBounds_toArray, List.set_cons_zero, List.set_cons_succ, i64_w, i32_w]
      rfl
    refine done_ (by kernel_rfl) ?_
    go_upto_region 5 with (fail)
    go_cut [26] (fun v26 wc => ∃ (kq : Nat) (x26_5 : Bool), v26 = .bool x26_5 ∧ Aside0 (tegulalaw21_LayoutFull.j0 kq (wrap64 (t312 - t310)) x26_5 t305 t306 t309 t310 = some r) ∧ Aside0 (kq ≤ k) ∧ Aside0 (Kd.S (Kd.slice 3 (Kd.int .i64)) 56 wc w.heap.size (fun _ => True) (.slice Ao11 t306.length co11) t306) ∧ Aside0 (wc.heap[gb311]? = some (.cells #[.int .i64 t305, (.slice Ao11 t306.length co11), .int .i64 t309, .int .i64 t310] 28 (0, 0))) ∧ Aside0 (Below w.heap.size w wc))
    case first =>
      have H := HC6.out
      clear HC6
      by_cases c15 : (wrap64 (t312 - t310)) < 1
      · rw [if_pos c15] at H
        have c15b0 : decide ((wrap64 (t312 - t310)) < 1) = true := decide_eq_true c15
        clear c15
        (first | rw [c15b0] | (simp only [i64_w, i32_w]; rw [c15b0]) | skip)
        have H' := Aside0.mk H
        clear H
        go_wp2
        go_meet
        case rel => exact ⟨_, (true), (by first | rfl | (simp; done) | (simp [*]; done)), H', ⟨by first | omega | exact Nat.le_refl _⟩, ⟨by (with_reducible repeat (first | apply Kd.S_alloc | apply Kd.S_drewN | apply Kd.S_drew)); exact HO308.out⟩, ⟨by (with_reducible repeat (first | refine blk_drewN ?_ _ | refine blk_drew ?_ | refine blk_alloc ?_ _)); exact BK311.out⟩, ⟨by repeat (first | (with_reducible first | exact HB.out | apply below_alloc | apply pw_below_drewN | apply below_drew1 | refine below_set ?_ GE311.out) | exact HB.out)⟩⟩
      · rw [if_neg c15] at H
        have c15b0 : decide ((wrap64 (t312 - t310)) < 1) = false := decide_eq_false c15
        clear c15
        (first | rw [c15b0] | (simp only [i64_w, i32_w]; rw [c15b0]) | skip)
        have H' := Aside0.mk H
        clear H
        go_wp2
        go_meet
        case rel => exact ⟨_, (decide ((wrap64 (t312 - t310)) > 200)), (by first | rfl | (simp; done) | (simp [*]; done)), H', ⟨by first | omega | exact Nat.le_refl _⟩, ⟨by (with_reducible repeat (first | apply Kd.S_alloc | apply Kd.S_drewN | apply Kd.S_drew)); exact HO308.out⟩, ⟨by (with_reducible repeat (first | refine blk_drewN ?_ _ | refine blk_drew ?_ | refine blk_alloc ?_ _)); exact BK311.out⟩, ⟨by repeat (first | (with_reducible first | exact HB.out | apply below_alloc | apply pw_below_drewN | apply below_drew1 | refine below_set ?_ GE311.out) | exact HB.out)⟩⟩
    case rest =>
      clear HC6
      try clear c1
      try clear c2
      try clear p2
      try clear c3
      try clear c6
      try clear p6
      try clear c13
      try clear c14
      try clear c15
      try clear c15b0
      try clear hcz10_0
      try clear hcz10_1
      try clear hcz10_2
      try clear hcz10_3
      try clear hfz10_0
      try clear hfz10_1
      try clear hfz10_2
      try clear hfz10_3
      obtain ⟨kq, x26_5, rfl, HA, HJ5, HO_312001, BK311, HB⟩ := hcut
      cases kq with
      | zero => exact absurd HA.out (by simp [tegulalaw21_LayoutFull.j0])
      | succ kj5 =>
        have H := HA.out
        clear HA
        simp only [tegulalaw21_LayoutFull.j0] at H
        by_cases c16 : x26_5 = true
        · subst c16
          have H1 : (some false) = some r := by rw [if_pos rfl] at H; exact H
          clear H
          have H := H1
          clear H1
          obtain rfl := Option.some.inj H
          go_wp2
          go_ret
          exact ⟨by first | rfl | (simp [errW_none, errW_some] <;> rfl) | (simp [*, errW_none, errW_some] <;> rfl), by repeat (first | (with_reducible first | exact HB.out | apply below_alloc | apply pw_below_drewN | apply below_drew1 | refine below_set ?_ GE311.out) | exact HB.out)⟩
        · replace c16 := Bool.eq_false_iff.mpr c16
          subst c16
          have H1 : (if 0 ≤ (wrap64 (t305 * (wrap64 (t312 - t310)))) then (if (wrap64 (t305 * (wrap64 (t312 - t310))) : Int).toNat ≤ 281474976710656 then (tegulalaw21_LayoutFull.l0 kj5 (wrap64 (t312 - t310)) (List.replicate (wrap64 (t305 * (wrap64 (t312 - t310))) : Int).toNat false) 0 t305 t306 t309 t310) else (none)) else (none)) = some r := by rw [if_neg (show ¬ (false = true) by decide)] at H; exact H
          clear H
          have H := H1
          clear H1
          obtain ⟨ji17, hji17⟩ : ∃ j_ : Int, (wrap64 (t305 * (wrap64 (t312 - t310)))) = j_ := ⟨_, rfl⟩
          replace H : (if 0 ≤ (ji17) then (if (ji17 : Int).toNat ≤ 281474976710656 then (tegulalaw21_LayoutFull.l0 kj5 (wrap64 (t312 - t310)) (List.replicate (ji17 : Int).toNat false) 0 t305 t306 t309 t310) else (none)) else (none)) = some r := by first | (rw [hji17] at H; exact H) | (simp only [hji17] at H ⊢; exact H)
          have hji17w : (IntKind.i64.wrap (t305 * (wrap64 (t312 - t310)))) = ji17 := (i64_w _).trans hji17
          by_cases c18 : 0 ≤ (ji17)
          · rw [if_pos c18] at H
            have c18b0 := eq_true c18
            have c18b1 : decide (0 ≤ (ji17)) = true := decide_eq_true c18
            clear c18
            by_cases c19 : (ji17 : Int).toNat ≤ 281474976710656
            · rw [if_pos c19] at H
              have c19b0 := eq_true c19
              have c19b1 : decide ((ji17 : Int).toNat ≤ 281474976710656) = true := decide_eq_true c19
              clear c19
              obtain ⟨y313, hy313⟩ : ∃ y_ : List Bool, y_ = (List.replicate (ji17 : Int).toNat false) := ⟨_, rfl⟩
              replace H : (tegulalaw21_LayoutFull.l0 kj5 (wrap64 (t312 - t310)) y313 0 t305 t306 t309 t310) = some r := by first | (rw [hy313]; with_reducible exact H) | (have H2_ := (Option.bind_some _ _).symm.trans H; rw [hy313]; with_reducible exact H2_) | (have H2_ := (Option.bind_some _ _).symm.trans H; with_reducible exact H2_) | with_reducible exact H | (rw [hy313]; exact H) | exact H
              have Ny313 := Aside0.mk hy313
              clear hy313
              have H' := Aside0.mk H
              clear H
              have hcz20_0 : wc.cell? ⟨gb311, 0, none⟩ = some (.int .i64 t305) := (blk_cell BK311.out 0).trans rfl
              have hcz20_1 : wc.cell? ⟨gb311, 1, none⟩ = some (.slice Ao11 t306.length co11) := (blk_cell BK311.out 1).trans rfl
              have hcz20_2 : wc.cell? ⟨gb311, 2, none⟩ = some (.int .i64 t309) := (blk_cell BK311.out 2).trans rfl
              have hcz20_3 : wc.cell? ⟨gb311, 3, none⟩ = some (.int .i64 t310) := (blk_cell BK311.out 3).trans rfl
              have hfz20_0 := blk_frozen BK311.out 0
              have hfz20_1 := blk_frozen BK311.out 1
              have hfz20_2 := blk_frozen BK311.out 2
              have hfz20_3 := blk_frozen BK311.out 3
              go_wp2_with (first | ((with_reducible refine gate_dst (N := 32) rfl ?_); (try (refine gate_guard (by rfl) ?_; dsimp only)); refine Kd.R_make Kd.bool _ 4 rfl (N := 32) rfl 44 _ _ rfl ji17 rfl rfl Try.underlying44 (.bool false) 1 info4 rfl (by decide) (by omega) false (ok := fun _ => True) (okp := fun _ => True) rfl (fun _ hk => hk) trivial (of_decide_eq_true (by first | (with_reducible assumption) | assumption)) (Nat.le_trans (Nat.mul_le_mul_right _ (of_decide_eq_true (by first | (with_reducible assumption) | assumption) : ji17.toNat ≤ 281474976710656)) (by omega)) (Below.refl _ _) (Nat.le_refl _) ?_; intro v314 w21 ho22 hb hg_ hnew_; clear hg_ hnew_; (first | rw [← Ny313.out] at ho22 | (simp only [Int.reduceToNat] at ho22; rw [← Ny313.out] at ho22)); have n0_ := Aside0.mk (Kd.S_below (by (with_reducible repeat (first | apply Kd.S_alloc | apply Kd.S_drewN | apply Kd.S_drew)); exact HO_312001.out) hb); have n1_ := Aside0.mk (Kd.R_lower ho22 (below_size (by repeat (first | (with_reducible first | exact HB.out | apply below_alloc | apply pw_below_drewN | apply below_drew1 | refine below_set ?_ GE311.out) | exact HB.out)))); have n2_ := Aside0.mk (blk_below (g := gb311) (o := .cells #[.int .i64 t305, .slice Ao11 t306.length co11, .int .i64 t309, .int .i64 t310] 28 (0, 0)) (by (with_reducible repeat (first | refine blk_drewN ?_ _ | refine blk_drew ?_ | refine blk_alloc ?_ _)); exact BK311.out) hb); have n3_ := Aside0.mk (below_step (by repeat (first | (with_reducible first | exact HB.out | apply below_alloc | apply pw_below_drewN | apply below_drew1 | refine below_set ?_ GE311.out) | exact HB.out)) hb); clear HO_312001; clear BK311; clear HB; have HO_312001 := n0_; have HO315 := n1_; have BK311 := n2_; have HB := n3_; clear n0_ n1_ n2_ n3_; clear hb ho22))
              go_loopg [6] kj5 (fun kq v6 w' => ∃ (x5_2 : List Bool) (x6_2 : Int), v6 = .int .i64 x6_2 ∧ Aside0 (tegulalaw21_LayoutFull.l0 kq (wrap64 (t312 - t310)) x5_2 x6_2 t305 t306 t309 t310 = some r) ∧ Aside0 (kq ≤ kj5) ∧ Aside0 (Kd.R Kd.bool 4 w' w.heap.size (fun _ => True) v314 x5_2) ∧ Aside0 (Kd.S (Kd.slice 3 (Kd.int .i64)) 56 w' w.heap.size (fun _ => True) (.slice Ao11 t306.length co11) t306) ∧ Aside0 (w'.heap[gb311]? = some (.cells #[.int .i64 t305, (.slice Ao11 t306.length co11), .int .i64 t309, .int .i64 t310] 28 (0, 0))) ∧ Aside0 (Below w.heap.size w w'))
              case atStart => exact ⟨(y313), (0), (by first | rfl | (simp; done) | (simp [*]; done)), H', ⟨Nat.le_refl _⟩, ⟨by (with_reducible repeat (first | apply Kd.R_alloc | apply Kd.R_drewN | apply Kd.R_drew)); exact HO315.out⟩, ⟨by (with_reducible repeat (first | apply Kd.S_alloc | apply Kd.S_drewN | apply Kd.S_drew)); exact HO_312001.out⟩, ⟨by (with_reducible repeat (first | refine blk_drewN ?_ _ | refine blk_drew ?_ | refine blk_alloc ?_ _)); exact BK311.out⟩, ⟨by repeat (first | (with_reducible first | exact HB.out | apply below_alloc | apply pw_below_drewN | apply below_drew1 | refine below_set ?_ GE311.out) | exact HB.out)⟩⟩
              case round =>
                clear H'
                try clear c1
                try clear c2
                try clear p2
                try clear c3
                try clear c6
                try clear p6
                try clear c13
                try clear c14
                try clear c15
                try clear c15b0
                try clear c16
                try clear c18
                try clear c18b0
                try clear c18b1
                try clear c19
                try clear c19b0
                try clear c19b1
                try clear hcz10_0
                try clear hcz10_1
                try clear hcz10_2
                try clear hcz10_3
                try clear hcz20_0
                try clear hcz20_1
                try clear hcz20_2
                try clear hcz20_3
                try clear hfz10_0
                try clear hfz10_1
                try clear hfz10_2
                try clear hfz10_3
                try clear hfz20_0
                try clear hfz20_1
                try clear hfz20_2
                try clear hfz20_3
                try clear p2
                try clear p6
                obtain ⟨x5_2, x6_2, rfl, HA, HK2, HO_5, HO_312001, BK311, HB⟩ := hrel
                cases gk with
                | zero => exact absurd HA.out (by simp [tegulalaw21_LayoutFull.l0])
                | succ k2 =>
                  have H := HA.out
                  clear HA
                  simp only [tegulalaw21_LayoutFull.l0] at H
                  replace H := Option.bind_eq_some_iff.mp H
                  obtain ⟨t316, A230, H⟩ := H
                  replace H : (if x6_2 < t316 then (tegulalaw21_LayoutFull.l1 k2 (wrap64 (t312 - t310)) x5_2 x6_2 0 t305 t306 t309 t310) else (tegulalaw21_LayoutFull.l2 k2 x5_2 0)) = some r := H
                  have A23 := Aside0.mk A230
                  clear A230
                  by_cases c24 : x6_2 < t316
                  · rw [if_pos c24] at H
                    have c24b0 : decide (x6_2 < t316) = true := decide_eq_true c24
                    clear c24
                    have H' := Aside0.mk H
                    clear H
                    have hcz25_0 : wr.cell? ⟨gb311, 0, none⟩ = some (.int .i64 t305) := (blk_cell BK311.out 0).trans rfl
                    have hcz25_1 : wr.cell? ⟨gb311, 1, none⟩ = some (.slice Ao11 t306.length co11) := (blk_cell BK311.out 1).trans rfl
                    have hcz25_2 : wr.cell? ⟨gb311, 2, none⟩ = some (.int .i64 t309) := (blk_cell BK311.out 2).trans rfl
                    have hcz25_3 : wr.cell? ⟨gb311, 3, none⟩ = some (.int .i64 t310) := (blk_cell BK311.out 3).trans rfl
                    have hfz25_0 := blk_frozen BK311.out 0
                    have hfz25_1 := blk_frozen BK311.out 1
                    have hfz25_2 := blk_frozen BK311.out 2
                    have hfz25_3 := blk_frozen BK311.out 3
                    go_wp2_with (first | ((with_reducible refine gate_callee (f := 25) rfl ?_); refine goesL_ (some 35) rfl rfl Try.func25 (by kernel_rfl) rfl #[.agg #[.int .i64 t305, .slice Ao11 t306.length co11, .int .i64 t309, .int .i64 t310]] rfl (by (try simp only [List.map_toArray, List.map_cons, List.map_nil]); first | done | rfl | (simp only [List.length_drop, List.length_take]; rfl)) ?_; (with_reducible refine (layout_Groups.calls t305 _ _ t306 t309 t310 t316 _ ?side1 ?side2 A23.out).mono ?_); (case side1 => repeat (first | exact (Kd.S_reads' HO_312001.out).2.2 | (with_reducible refine Kd.C_alloc ?_ _) | (with_reducible refine Kd.C_drewN ?_ _) | (with_reducible refine Kd.C_drew ?_))); (case side2 => exact (Kd.S_reads' HO_312001.out).2.1); rintro e w26 ⟨rfl, hb⟩; refine ⟨_, rfl, ?_⟩; have n0_ := Aside0.mk (Kd.R_below (by (with_reducible repeat (first | apply Kd.R_alloc | apply Kd.R_drewN | apply Kd.R_drew)); exact HO_5.out) hb); have n1_ := Aside0.mk (Kd.S_below (by (with_reducible repeat (first | apply Kd.S_alloc | apply Kd.S_drewN | apply Kd.S_drew)); exact HO_312001.out) hb); have n2_ := Aside0.mk (blk_below (g := gb311) (o := .cells #[.int .i64 t305, .slice Ao11 t306.length co11, .int .i64 t309, .int .i64 t310] 28 (0, 0)) (by (with_reducible repeat (first | refine blk_drewN ?_ _ | refine blk_drew ?_ | refine blk_alloc ?_ _)); exact BK311.out) hb); have n3_ := Aside0.mk (below_step (by repeat (first | (with_reducible first | exact HB.out | apply below_alloc | apply pw_below_drewN | apply below_drew1 | refine below_set ?_ GE311.out) | exact HB.out)) hb); clear HO_5; clear HO_312001; clear BK311; clear HB; have HO_5 := n0_; have HO_312001 := n1_; have BK311 := n2_; have HB := n3_; clear n0_ n1_ n2_ n3_; (try clear hb); (try clear hb2); (try clear hk); (try clear hi)))
                    go_loopg [7] k2 (fun kq v7 w' => ∃ (x5_3 : List Bool) (x7_3 : Int), v7 = .int .i64 x7_3 ∧ Aside0 (tegulalaw21_LayoutFull.l1 kq (wrap64 (t312 - t310)) x5_3 x6_2 x7_3 t305 t306 t309 t310 = some r) ∧ Aside0 (kq ≤ k2) ∧ Aside0 (Kd.R Kd.bool 4 w' w.heap.size (fun _ => True) v314 x5_3) ∧ Aside0 (Kd.S (Kd.slice 3 (Kd.int .i64)) 56 w' w.heap.size (fun _ => True) (.slice Ao11 t306.length co11) t306) ∧ Aside0 (w'.heap[gb311]? = some (.cells #[.int .i64 t305, (.slice Ao11 t306.length co11), .int .i64 t309, .int .i64 t310] 28 (0, 0))) ∧ Aside0 (Below w.heap.size w w'))
                    case atStart => exact ⟨(x5_2), (0), (by first | rfl | (simp; done) | (simp [*]; done)), H', ⟨Nat.le_refl _⟩, ⟨by (with_reducible repeat (first | apply Kd.R_alloc | apply Kd.R_drewN | apply Kd.R_drew)); exact HO_5.out⟩, ⟨by (with_reducible repeat (first | apply Kd.S_alloc | apply Kd.S_drewN | apply Kd.S_drew)); exact HO_312001.out⟩, ⟨by (with_reducible repeat (first | refine blk_drewN ?_ _ | refine blk_drew ?_ | refine blk_alloc ?_ _)); exact BK311.out⟩, ⟨by repeat (first | (with_reducible first | exact HB.out | apply below_alloc | apply pw_below_drewN | apply below_drew1 | refine below_set ?_ GE311.out) | exact HB.out)⟩⟩
                    case round =>
                      clear H'
                      try clear c1
                      try clear c2
                      try clear p2
                      try clear c3
                      try clear c6
                      try clear p6
                      try clear c13
                      try clear c14
                      try clear c15
                      try clear c15b0
                      try clear c16
                      try clear c18
                      try clear c18b0
                      try clear c18b1
                      try clear c19
                      try clear c19b0
                      try clear c19b1
                      try clear c24
                      try clear c24b0
                      try clear c25
                      try clear hcz10_0
                      try clear hcz10_1
                      try clear hcz10_2
                      try clear hcz10_3
                      try clear hcz20_0
                      try clear hcz20_1
                      try clear hcz20_2
                      try clear hcz20_3
                      try clear hcz25_0
                      try clear hcz25_1
                      try clear hcz25_2
                      try clear hcz25_3
                      try clear hfz10_0
                      try clear hfz10_1
                      try clear hfz10_2
                      try clear hfz10_3
                      try clear hfz20_0
                      try clear hfz20_1
                      try clear hfz20_2
                      try clear hfz20_3
                      try clear hfz25_0
                      try clear hfz25_1
                      try clear hfz25_2
                      try clear hfz25_3
                      try clear p2
                      try clear p6
                      obtain ⟨x5_3, x7_3, rfl, HA, HK3, HO_5, HO_312001, BK311, HB⟩ := hrel
                      cases gk with
                      | zero => exact absurd HA.out (by simp [tegulalaw21_LayoutFull.l1])
                      | succ k3 =>
                        have H := HA.out
                        clear HA
                        simp only [tegulalaw21_LayoutFull.l1] at H
                        replace H := Option.bind_eq_some_iff.mp H
                        obtain ⟨t317, A270, H⟩ := H
                        replace H : (if x7_3 < t317 then ((layout_Home.f t305 t306 t309 t310 x6_2 x7_3).bind fun bt318 => (if bt318.2.2 = 0 then (if bt318.2.1 < 0 then (some false) else (if bt318.2.1 ≥ (wrap64 (t312 - t310)) then (some false) else (if (wrap64 ((wrap64 (bt318.1 * (wrap64 (t312 - t310)))) + bt318.2.1)) < 0 then (some false) else (if (wrap64 ((wrap64 (bt318.1 * (wrap64 (t312 - t310)))) + bt318.2.1)) ≥ (x5_3.length : Int) then (some false) else (if 0 ≤ (wrap64 ((wrap64 (bt318.1 * (wrap64 (t312 - t310)))) + bt318.2.1)) then (if (wrap64 ((wrap64 (bt318.1 * (wrap64 (t312 - t310)))) + bt318.2.1)) < (x5_3.length : Int) then (if rdOf false x5_3 (wrap64 ((wrap64 (bt318.1 * (wrap64 (t312 - t310)))) + bt318.2.1)) = true then (some false) else (tegulalaw21_LayoutFull.l1 k3 (wrap64 (t312 - t310)) (x5_3.set ((wrap64 ((wrap64 (bt318.1 * (wrap64 (t312 - t310)))) + bt318.2.1)) : Int).toNat true) x6_2 (wrap64 (x7_3 + 1)) t305 t306 t309 t310)) else (none)) else (none)))))) else (some false))) else (tegulalaw21_LayoutFull.l0 k3 (wrap64 (t312 - t310)) x5_3 (wrap64 (x6_2 + 1)) t305 t306 t309 t310)) = some r := H
                        have A27 := Aside0.mk A270
                        clear A270
                        by_cases c28 : x7_3 < t317
                        · rw [if_pos c28] at H
                          have c28b0 : decide (x7_3 < t317) = true := decide_eq_true c28
                          clear c28
                          replace H := Option.bind_eq_some_iff.mp H
                          obtain ⟨⟨t318, t319, t320⟩, A290, H⟩ := H
                          replace H : (if t320 = 0 then (if t319 < 0 then (some false) else (if t319 ≥ (wrap64 (t312 - t310)) then (some false) else (if (wrap64 ((wrap64 (t318 * (wrap64 (t312 - t310)))) + t319)) < 0 then (some false) else (if (wrap64 ((wrap64 (t318 * (wrap64 (t312 - t310)))) + t319)) ≥ (x5_3.length : Int) then (some false) else (if 0 ≤ (wrap64 ((wrap64 (t318 * (wrap64 (t312 - t310)))) + t319)) then (if (wrap64 ((wrap64 (t318 * (wrap64 (t312 - t310)))) + t319)) < (x5_3.length : Int) then (if rdOf false x5_3 (wrap64 ((wrap64 (t318 * (wrap64 (t312 - t310)))) + t319)) = true then (some false) else (tegulalaw21_LayoutFull.l1 k3 (wrap64 (t312 - t310)) (x5_3.set ((wrap64 ((wrap64 (t318 * (wrap64 (t312 - t310)))) + t319)) : Int).toNat true) x6_2 (wrap64 (x7_3 + 1)) t305 t306 t309 t310)) else (none)) else (none)))))) else (some false)) = some r := H
                          have A29 := Aside0.mk A290
                          clear A290
                          by_cases c30 : t320 = 0
                          · rw [if_pos c30] at H
                            have c30b0 : (t320 == 0) = true := beq_iff_eq.mpr c30
                            have c30b1 : (t320 != 0) = false := bne_eq_false_iff_eq.mpr c30
                            clear c30
                            by_cases c31 : t319 < 0
                            · rw [if_pos c31] at H
                              have c31b0 : decide (t319 < 0) = true := decide_eq_true c31
                              clear c31
                              obtain rfl := Option.some.inj H
                              have hcz32_0 : wr.cell? ⟨gb311, 0, none⟩ = some (.int .i64 t305) := (blk_cell BK311.out 0).trans rfl
                              have hcz32_1 : wr.cell? ⟨gb311, 1, none⟩ = some (.slice Ao11 t306.length co11) := (blk_cell BK311.out 1).trans rfl
                              have hcz32_2 : wr.cell? ⟨gb311, 2, none⟩ = some (.int .i64 t309) := (blk_cell BK311.out 2).trans rfl
                              have hcz32_3 : wr.cell? ⟨gb311, 3, none⟩ = some (.int .i64 t310) := (blk_cell BK311.out 3).trans rfl
                              have hfz32_0 := blk_frozen BK311.out 0
                              have hfz32_1 := blk_frozen BK311.out 1
                              have hfz32_2 := blk_frozen BK311.out 2
                              have hfz32_3 := blk_frozen BK311.out 3
                              go_wp2_with (first | ((with_reducible refine gate_callee (f := 26) rfl ?_); refine goesL_ (some 41) rfl rfl Try.func26 (by kernel_rfl) rfl #[.agg #[.int .i64 t305, .slice Ao11 t306.length co11, .int .i64 t309, .int .i64 t310]] rfl (by (try simp only [List.map_toArray, List.map_cons, List.map_nil]); first | done | rfl | (simp only [List.length_drop, List.length_take]; rfl)) ?_; (with_reducible refine (layout_Width.calls t305 _ _ t306 t309 t310 t317 _ ?side1 ?side2 A27.out).mono ?_); (case side1 => repeat (first | exact (Kd.S_reads' HO_312001.out).2.2 | (with_reducible refine Kd.C_alloc ?_ _) | (with_reducible refine Kd.C_drewN ?_ _) | (with_reducible refine Kd.C_drew ?_))); (case side2 => exact (Kd.S_reads' HO_312001.out).2.1); rintro e w33 ⟨rfl, hb⟩; refine ⟨_, rfl, ?_⟩; have n0_ := Aside0.mk (Kd.R_below (by (with_reducible repeat (first | apply Kd.R_alloc | apply Kd.R_drewN | apply Kd.R_drew)); exact HO_5.out) hb); have n1_ := Aside0.mk (Kd.S_below (by (with_reducible repeat (first | apply Kd.S_alloc | apply Kd.S_drewN | apply Kd.S_drew)); exact HO_312001.out) hb); have n2_ := Aside0.mk (blk_below (g := gb311) (o := .cells #[.int .i64 t305, .slice Ao11 t306.length co11, .int .i64 t309, .int .i64 t310] 28 (0, 0)) (by (with_reducible repeat (first | refine blk_drewN ?_ _ | refine blk_drew ?_ | refine blk_alloc ?_ _)); exact BK311.out) hb); have n3_ := Aside0.mk (below_step (by repeat (first | (with_reducible first | exact HB.out | apply below_alloc | apply pw_below_drewN | apply below_drew1 | refine below_set ?_ GE311.out) | exact HB.out)) hb); clear HO_5; clear HO_312001; clear BK311; clear HB; have HO_5 := n0_; have HO_312001 := n1_; have BK311 := n2_; have HB := n3_; clear n0_ n1_ n2_ n3_; (try clear hb); (try clear hb2); (try clear hk); (try clear hi); have hcz34_0 : w33.cell? ⟨gb311, 0, none⟩ = some (.int .i64 t305) := (blk_cell BK311.out 0).trans rfl; have hcz34_1 : w33.cell? ⟨gb311, 1, none⟩ = some (.slice Ao11 t306.length co11) := (blk_cell BK311.out 1).trans rfl; have hcz34_2 : w33.cell? ⟨gb311, 2, none⟩ = some (.int .i64 t309) := (blk_cell BK311.out 2).trans rfl; have hcz34_3 : w33.cell? ⟨gb311, 3, none⟩ = some (.int .i64 t310) := (blk_cell BK311.out 3).trans rfl; have hfz34_0 := blk_frozen BK311.out 0; have hfz34_1 := blk_frozen BK311.out 1; have hfz34_2 := blk_frozen BK311.out 2; have hfz34_3 := blk_frozen BK311.out 3) | ((with_reducible refine gate_callee (f := 15) rfl ?_); refine goesL_ (some 49) rfl rfl Try.func15 (by kernel_rfl) rfl #[.agg #[.int .i64 t305, .slice Ao11 t306.length co11, .int .i64 t309, .int .i64 t310], .int .i64 x6_2, .int .i64 x7_3] rfl (by (try simp only [List.map_toArray, List.map_cons, List.map_nil]); first | done | rfl | (simp only [List.length_drop, List.length_take]; rfl)) ?_; (with_reducible refine (layout_Home.calls t305 _ _ t306 t309 t310 x6_2 x7_3 t318 t319 t320 _ ?side1 ?side2 A29.out).mono ?_); (case side1 => repeat (first | exact (Kd.S_reads' HO_312001.out).2.2 | (with_reducible refine Kd.C_alloc ?_ _) | (with_reducible refine Kd.C_drewN ?_ _) | (with_reducible refine Kd.C_drew ?_))); (case side2 => exact (Kd.S_reads' HO_312001.out).2.1); rintro e w35 ⟨rfl, hb⟩; refine ⟨_, rfl, ?_⟩; have n0_ := Aside0.mk (Kd.R_below (by (with_reducible repeat (first | apply Kd.R_alloc | apply Kd.R_drewN | apply Kd.R_drew)); exact HO_5.out) hb); have n1_ := Aside0.mk (Kd.S_below (by (with_reducible repeat (first | apply Kd.S_alloc | apply Kd.S_drewN | apply Kd.S_drew)); exact HO_312001.out) hb); have n2_ := Aside0.mk (blk_below (g := gb311) (o := .cells #[.int .i64 t305, .slice Ao11 t306.length co11, .int .i64 t309, .int .i64 t310] 28 (0, 0)) (by (with_reducible repeat (first | refine blk_drewN ?_ _ | refine blk_drew ?_ | refine blk_alloc ?_ _)); exact BK311.out) hb); have n3_ := Aside0.mk (below_step (by repeat (first | (with_reducible first | exact HB.out | apply below_alloc | apply pw_below_drewN | apply below_drew1 | refine below_set ?_ GE311.out) | exact HB.out)) hb); clear HO_5; clear HO_312001; clear BK311; clear HB; have HO_5 := n0_; have HO_312001 := n1_; have BK311 := n2_; have HB := n3_; clear n0_ n1_ n2_ n3_; (try clear hb); (try clear hb2); (try clear hk); (try clear hi)) | ((with_reducible refine gate_dst (N := 8) rfl ?_); (try (refine gate_guard (by rfl) ?_; dsimp only)); refine box_event ?hg (N := 8) ?hd (cs := #[.int .i64 0, .int .i64 0]) (t := 31) ?hr ?_; (case hd => rfl); (case hg => rfl); (case hr => first | (go_simp; done) | (go_simp; rfl)); intro gb321 hg w36 hbox hb; have n0_ := Aside0.mk (Kd.R_below (by (with_reducible repeat (first | apply Kd.R_alloc | apply Kd.R_drewN | apply Kd.R_drew)); exact HO_5.out) hb); have n1_ := Aside0.mk (Kd.S_below (by (with_reducible repeat (first | apply Kd.S_alloc | apply Kd.S_drewN | apply Kd.S_drew)); exact HO_312001.out) hb); have n2_ := Aside0.mk (blk_below (g := gb311) (o := .cells #[.int .i64 t305, .slice Ao11 t306.length co11, .int .i64 t309, .int .i64 t310] 28 (0, 0)) (by (with_reducible repeat (first | refine blk_drewN ?_ _ | refine blk_drew ?_ | refine blk_alloc ?_ _)); exact BK311.out) hb); have n3_ := Aside0.mk (below_step (by repeat (first | (with_reducible first | exact HB.out | apply below_alloc | apply pw_below_drewN | apply below_drew1 | refine below_set ?_ GE311.out) | exact HB.out)) hb); have n4_ := Aside0.mk (hbox); have n5_ := Aside0.mk ((by rw [hg]; exact (below_size (by repeat (first | (with_reducible first | exact HB.out | apply below_alloc | apply pw_below_drewN | apply below_drew1 | refine below_set ?_ GE311.out) | exact HB.out))) : w.heap.size ≤ gb321)); have n6_ := Aside0.mk ((by rw [hg]; exact (below_size (by repeat (first | (with_reducible first | exact HB.out | apply below_alloc | apply pw_below_drewN | apply below_drew1 | refine below_set ?_ GE311.out) | exact HB.out))) : w.heap.size ≤ gb321)); have n7_ := Aside0.mk ((by rw [hg]; exact Nat.ne_of_lt (blk_lt (g := gb311) (o := .cells #[.int .i64 t305, .slice Ao11 t306.length co11, .int .i64 t309, .int .i64 t310] 28 (0, 0)) (by (with_reducible repeat (first | refine blk_drewN ?_ _ | refine blk_drew ?_ | refine blk_alloc ?_ _)); exact BK311.out)) : gb311 ≠ gb321)); have n8_ := Aside0.mk ((by rw [hg]; exact Nat.ne_of_gt (blk_lt (g := gb311) (o := .cells #[.int .i64 t305, .slice Ao11 t306.length co11, .int .i64 t309, .int .i64 t310] 28 (0, 0)) (by (with_reducible repeat (first | refine blk_drewN ?_ _ | refine blk_drew ?_ | refine blk_alloc ?_ _)); exact BK311.out)) : gb321 ≠ gb311)); clear HO_5; clear HO_312001; clear BK311; clear HB; have HO_5 := n0_; have HO_312001 := n1_; have BK311 := n2_; have HB := n3_; have BK321 := n4_; have GW321 := n5_; have GE321 := n6_; have NB311_321 := n7_; have NB321_311 := n8_; clear n0_ n1_ n2_ n3_ n4_ n5_ n6_ n7_ n8_; clear hb hbox hg; have hnb37 := NB321_311.out; have hnc37 := NB311_321.out; have hcz38_0 : w36.cell? ⟨gb321, 0, none⟩ = some (.int .i64 0) := (blk_cell BK321.out 0).trans rfl; have hcz38_1 : w36.cell? ⟨gb321, 1, none⟩ = some (.int .i64 0) := (blk_cell BK321.out 1).trans rfl; have hfz38_0 := blk_frozen BK321.out 0; have hfz38_1 := blk_frozen BK321.out 1))
                              go_ret
                              exact ⟨by first | rfl | (simp [errW_none, errW_some] <;> rfl) | (simp only [← hji17]; first | rfl | (simp [errW_none, errW_some] <;> rfl)) | (simp [*, errW_none, errW_some] <;> rfl), by repeat (first | (with_reducible first | exact HB.out | apply below_alloc | apply pw_below_drewN | apply below_drew1 | refine below_set ?_ GE311.out | refine below_set ?_ GE321.out) | exact HB.out)⟩
                            · rw [if_neg c31] at H
                              have c31b0 : decide (t319 < 0) = false := decide_eq_false c31
                              clear c31
                              by_cases c39 : t319 ≥ (wrap64 (t312 - t310))
                              · rw [if_pos c39] at H
                                have c39b0 : decide ((wrap64 (t312 - t310)) ≤ t319) = true := decide_eq_true c39
                                clear c39
                                obtain rfl := Option.some.inj H
                                have hcz40_0 : wr.cell? ⟨gb311, 0, none⟩ = some (.int .i64 t305) := (blk_cell BK311.out 0).trans rfl
                                have hcz40_1 : wr.cell? ⟨gb311, 1, none⟩ = some (.slice Ao11 t306.length co11) := (blk_cell BK311.out 1).trans rfl
                                have hcz40_2 : wr.cell? ⟨gb311, 2, none⟩ = some (.int .i64 t309) := (blk_cell BK311.out 2).trans rfl
                                have hcz40_3 : wr.cell? ⟨gb311, 3, none⟩ = some (.int .i64 t310) := (blk_cell BK311.out 3).trans rfl
                                have hfz40_0 := blk_frozen BK311.out 0
                                have hfz40_1 := blk_frozen BK311.out 1
                                have hfz40_2 := blk_frozen BK311.out 2
                                have hfz40_3 := blk_frozen BK311.out 3
                                go_wp2_with (first | ((with_reducible refine gate_callee (f := 26) rfl ?_); refine goesL_ (some 41) rfl rfl Try.func26 (by kernel_rfl) rfl #[.agg #[.int .i64 t305, .slice Ao11 t306.length co11, .int .i64 t309, .int .i64 t310]] rfl (by (try simp only [List.map_toArray, List.map_cons, List.map_nil]); first | done | rfl | (simp only [List.length_drop, List.length_take]; rfl)) ?_; (with_reducible refine (layout_Width.calls t305 _ _ t306 t309 t310 t317 _ ?side1 ?side2 A27.out).mono ?_); (case side1 => repeat (first | exact (Kd.S_reads' HO_312001.out).2.2 | (with_reducible refine Kd.C_alloc ?_ _) | (with_reducible refine Kd.C_drewN ?_ _) | (with_reducible refine Kd.C_drew ?_))); (case side2 => exact (Kd.S_reads' HO_312001.out).2.1); rintro e w41 ⟨rfl, hb⟩; refine ⟨_, rfl, ?_⟩; have n0_ := Aside0.mk (Kd.R_below (by (with_reducible repeat (first | apply Kd.R_alloc | apply Kd.R_drewN | apply Kd.R_drew)); exact HO_5.out) hb); have n1_ := Aside0.mk (Kd.S_below (by (with_reducible repeat (first | apply Kd.S_alloc | apply Kd.S_drewN | apply Kd.S_drew)); exact HO_312001.out) hb); have n2_ := Aside0.mk (blk_below (g := gb311) (o := .cells #[.int .i64 t305, .slice Ao11 t306.length co11, .int .i64 t309, .int .i64 t310] 28 (0, 0)) (by (with_reducible repeat (first | refine blk_drewN ?_ _ | refine blk_drew ?_ | refine blk_alloc ?_ _)); exact BK311.out) hb); have n3_ := Aside0.mk (below_step (by repeat (first | (with_reducible first | exact HB.out | apply below_alloc | apply pw_below_drewN | apply below_drew1 | refine below_set ?_ GE311.out) | exact HB.out)) hb); clear HO_5; clear HO_312001; clear BK311; clear HB; have HO_5 := n0_; have HO_312001 := n1_; have BK311 := n2_; have HB := n3_; clear n0_ n1_ n2_ n3_; (try clear hb); (try clear hb2); (try clear hk); (try clear hi); have hcz42_0 : w41.cell? ⟨gb311, 0, none⟩ = some (.int .i64 t305) := (blk_cell BK311.out 0).trans rfl; have hcz42_1 : w41.cell? ⟨gb311, 1, none⟩ = some (.slice Ao11 t306.length co11) := (blk_cell BK311.out 1).trans rfl; have hcz42_2 : w41.cell? ⟨gb311, 2, none⟩ = some (.int .i64 t309) := (blk_cell BK311.out 2).trans rfl; have hcz42_3 : w41.cell? ⟨gb311, 3, none⟩ = some (.int .i64 t310) := (blk_cell BK311.out 3).trans rfl; have hfz42_0 := blk_frozen BK311.out 0; have hfz42_1 := blk_frozen BK311.out 1; have hfz42_2 := blk_frozen BK311.out 2; have hfz42_3 := blk_frozen BK311.out 3) | ((with_reducible refine gate_callee (f := 15) rfl ?_); refine goesL_ (some 49) rfl rfl Try.func15 (by kernel_rfl) rfl #[.agg #[.int .i64 t305, .slice Ao11 t306.length co11, .int .i64 t309, .int .i64 t310], .int .i64 x6_2, .int .i64 x7_3] rfl (by (try simp only [List.map_toArray, List.map_cons, List.map_nil]); first | done | rfl | (simp only [List.length_drop, List.length_take]; rfl)) ?_; (with_reducible refine (layout_Home.calls t305 _ _ t306 t309 t310 x6_2 x7_3 t318 t319 t320 _ ?side1 ?side2 A29.out).mono ?_); (case side1 => repeat (first | exact (Kd.S_reads' HO_312001.out).2.2 | (with_reducible refine Kd.C_alloc ?_ _) | (with_reducible refine Kd.C_drewN ?_ _) | (with_reducible refine Kd.C_drew ?_))); (case side2 => exact (Kd.S_reads' HO_312001.out).2.1); rintro e w43 ⟨rfl, hb⟩; refine ⟨_, rfl, ?_⟩; have n0_ := Aside0.mk (Kd.R_below (by (with_reducible repeat (first | apply Kd.R_alloc | apply Kd.R_drewN | apply Kd.R_drew)); exact HO_5.out) hb); have n1_ := Aside0.mk (Kd.S_below (by (with_reducible repeat (first | apply Kd.S_alloc | apply Kd.S_drewN | apply Kd.S_drew)); exact HO_312001.out) hb); have n2_ := Aside0.mk (blk_below (g := gb311) (o := .cells #[.int .i64 t305, .slice Ao11 t306.length co11, .int .i64 t309, .int .i64 t310] 28 (0, 0)) (by (with_reducible repeat (first | refine blk_drewN ?_ _ | refine blk_drew ?_ | refine blk_alloc ?_ _)); exact BK311.out) hb); have n3_ := Aside0.mk (below_step (by repeat (first | (with_reducible first | exact HB.out | apply below_alloc | apply pw_below_drewN | apply below_drew1 | refine below_set ?_ GE311.out) | exact HB.out)) hb); clear HO_5; clear HO_312001; clear BK311; clear HB; have HO_5 := n0_; have HO_312001 := n1_; have BK311 := n2_; have HB := n3_; clear n0_ n1_ n2_ n3_; (try clear hb); (try clear hb2); (try clear hk); (try clear hi)) | ((with_reducible refine gate_dst (N := 8) rfl ?_); (try (refine gate_guard (by rfl) ?_; dsimp only)); refine box_event ?hg (N := 8) ?hd (cs := #[.int .i64 0, .int .i64 0]) (t := 31) ?hr ?_; (case hd => rfl); (case hg => rfl); (case hr => first | (go_simp; done) | (go_simp; rfl)); intro gb321 hg w44 hbox hb; have n0_ := Aside0.mk (Kd.R_below (by (with_reducible repeat (first | apply Kd.R_alloc | apply Kd.R_drewN | apply Kd.R_drew)); exact HO_5.out) hb); have n1_ := Aside0.mk (Kd.S_below (by (with_reducible repeat (first | apply Kd.S_alloc | apply Kd.S_drewN | apply Kd.S_drew)); exact HO_312001.out) hb); have n2_ := Aside0.mk (blk_below (g := gb311) (o := .cells #[.int .i64 t305, .slice Ao11 t306.length co11, .int .i64 t309, .int .i64 t310] 28 (0, 0)) (by (with_reducible repeat (first | refine blk_drewN ?_ _ | refine blk_drew ?_ | refine blk_alloc ?_ _)); exact BK311.out) hb); have n3_ := Aside0.mk (below_step (by repeat (first | (with_reducible first | exact HB.out | apply below_alloc | apply pw_below_drewN | apply below_drew1 | refine below_set ?_ GE311.out) | exact HB.out)) hb); have n4_ := Aside0.mk (hbox); have n5_ := Aside0.mk ((by rw [hg]; exact (below_size (by repeat (first | (with_reducible first | exact HB.out | apply below_alloc | apply pw_below_drewN | apply below_drew1 | refine below_set ?_ GE311.out) | exact HB.out))) : w.heap.size ≤ gb321)); have n6_ := Aside0.mk ((by rw [hg]; exact (below_size (by repeat (first | (with_reducible first | exact HB.out | apply below_alloc | apply pw_below_drewN | apply below_drew1 | refine below_set ?_ GE311.out) | exact HB.out))) : w.heap.size ≤ gb321)); have n7_ := Aside0.mk ((by rw [hg]; exact Nat.ne_of_lt (blk_lt (g := gb311) (o := .cells #[.int .i64 t305, .slice Ao11 t306.length co11, .int .i64 t309, .int .i64 t310] 28 (0, 0)) (by (with_reducible repeat (first | refine blk_drewN ?_ _ | refine blk_drew ?_ | refine blk_alloc ?_ _)); exact BK311.out)) : gb311 ≠ gb321)); have n8_ := Aside0.mk ((by rw [hg]; exact Nat.ne_of_gt (blk_lt (g := gb311) (o := .cells #[.int .i64 t305, .slice Ao11 t306.length co11, .int .i64 t309, .int .i64 t310] 28 (0, 0)) (by (with_reducible repeat (first | refine blk_drewN ?_ _ | refine blk_drew ?_ | refine blk_alloc ?_ _)); exact BK311.out)) : gb321 ≠ gb311)); clear HO_5; clear HO_312001; clear BK311; clear HB; have HO_5 := n0_; have HO_312001 := n1_; have BK311 := n2_; have HB := n3_; have BK321 := n4_; have GW321 := n5_; have GE321 := n6_; have NB311_321 := n7_; have NB321_311 := n8_; clear n0_ n1_ n2_ n3_ n4_ n5_ n6_ n7_ n8_; clear hb hbox hg; have hnb45 := NB321_311.out; have hnc45 := NB311_321.out; have hcz46_0 : w44.cell? ⟨gb321, 0, none⟩ = some (.int .i64 0) := (blk_cell BK321.out 0).trans rfl; have hcz46_1 : w44.cell? ⟨gb321, 1, none⟩ = some (.int .i64 0) := (blk_cell BK321.out 1).trans rfl; have hfz46_0 := blk_frozen BK321.out 0; have hfz46_1 := blk_frozen BK321.out 1))
                                go_ret
                                exact ⟨by first | rfl | (simp [errW_none, errW_some] <;> rfl) | (simp only [← hji17]; first | rfl | (simp [errW_none, errW_some] <;> rfl)) | (simp [*, errW_none, errW_some] <;> rfl), by repeat (first | (with_reducible first | exact HB.out | apply below_alloc | apply pw_below_drewN | apply below_drew1 | refine below_set ?_ GE311.out | refine below_set ?_ GE321.out) | exact HB.out)⟩
                              · rw [if_neg c39] at H
                                have c39b0 : decide ((wrap64 (t312 - t310)) ≤ t319) = false := decide_eq_false c39
                                clear c39
                                by_cases c47 : (wrap64 ((wrap64 (t318 * (wrap64 (t312 - t310)))) + t319)) < 0
                                · rw [if_pos c47] at H
                                  have c47b0 : decide ((wrap64 ((wrap64 (t318 * (wrap64 (t312 - t310)))) + t319)) < 0) = true := decide_eq_true c47
                                  clear c47
                                  obtain rfl := Option.some.inj H
                                  have hcz48_0 : wr.cell? ⟨gb311, 0, none⟩ = some (.int .i64 t305) := (blk_cell BK311.out 0).trans rfl
                                  have hcz48_1 : wr.cell? ⟨gb311, 1, none⟩ = some (.slice Ao11 t306.length co11) := (blk_cell BK311.out 1).trans rfl
                                  have hcz48_2 : wr.cell? ⟨gb311, 2, none⟩ = some (.int .i64 t309) := (blk_cell BK311.out 2).trans rfl
                                  have hcz48_3 : wr.cell? ⟨gb311, 3, none⟩ = some (.int .i64 t310) := (blk_cell BK311.out 3).trans rfl
                                  have hfz48_0 := blk_frozen BK311.out 0
                                  have hfz48_1 := blk_frozen BK311.out 1
                                  have hfz48_2 := blk_frozen BK311.out 2
                                  have hfz48_3 := blk_frozen BK311.out 3
                                  go_wp2_with (first | ((with_reducible refine gate_callee (f := 26) rfl ?_); refine goesL_ (some 41) rfl rfl Try.func26 (by kernel_rfl) rfl #[.agg #[.int .i64 t305, .slice Ao11 t306.length co11, .int .i64 t309, .int .i64 t310]] rfl (by (try simp only [List.map_toArray, List.map_cons, List.map_nil]); first | done | rfl | (simp only [List.length_drop, List.length_take]; rfl)) ?_; (with_reducible refine (layout_Width.calls t305 _ _ t306 t309 t310 t317 _ ?side1 ?side2 A27.out).mono ?_); (case side1 => repeat (first | exact (Kd.S_reads' HO_312001.out).2.2 | (with_reducible refine Kd.C_alloc ?_ _) | (with_reducible refine Kd.C_drewN ?_ _) | (with_reducible refine Kd.C_drew ?_))); (case side2 => exact (Kd.S_reads' HO_312001.out).2.1); rintro e w49 ⟨rfl, hb⟩; refine ⟨_, rfl, ?_⟩; have n0_ := Aside0.mk (Kd.R_below (by (with_reducible repeat (first | apply Kd.R_alloc | apply Kd.R_drewN | apply Kd.R_drew)); exact HO_5.out) hb); have n1_ := Aside0.mk (Kd.S_below (by (with_reducible repeat (first | apply Kd.S_alloc | apply Kd.S_drewN | apply Kd.S_drew)); exact HO_312001.out) hb); have n2_ := Aside0.mk (blk_below (g := gb311) (o := .cells #[.int .i64 t305, .slice Ao11 t306.length co11, .int .i64 t309, .int .i64 t310] 28 (0, 0)) (by (with_reducible repeat (first | refine blk_drewN ?_ _ | refine blk_drew ?_ | refine blk_alloc ?_ _)); exact BK311.out) hb); have n3_ := Aside0.mk (below_step (by repeat (first | (with_reducible first | exact HB.out | apply below_alloc | apply pw_below_drewN | apply below_drew1 | refine below_set ?_ GE311.out) | exact HB.out)) hb); clear HO_5; clear HO_312001; clear BK311; clear HB; have HO_5 := n0_; have HO_312001 := n1_; have BK311 := n2_; have HB := n3_; clear n0_ n1_ n2_ n3_; (try clear hb); (try clear hb2); (try clear hk); (try clear hi); have hcz50_0 : w49.cell? ⟨gb311, 0, none⟩ = some (.int .i64 t305) := (blk_cell BK311.out 0).trans rfl; have hcz50_1 : w49.cell? ⟨gb311, 1, none⟩ = some (.slice Ao11 t306.length co11) := (blk_cell BK311.out 1).trans rfl; have hcz50_2 : w49.cell? ⟨gb311, 2, none⟩ = some (.int .i64 t309) := (blk_cell BK311.out 2).trans rfl; have hcz50_3 : w49.cell? ⟨gb311, 3, none⟩ = some (.int .i64 t310) := (blk_cell BK311.out 3).trans rfl; have hfz50_0 := blk_frozen BK311.out 0; have hfz50_1 := blk_frozen BK311.out 1; have hfz50_2 := blk_frozen BK311.out 2; have hfz50_3 := blk_frozen BK311.out 3) | ((with_reducible refine gate_callee (f := 15) rfl ?_); refine goesL_ (some 49) rfl rfl Try.func15 (by kernel_rfl) rfl #[.agg #[.int .i64 t305, .slice Ao11 t306.length co11, .int .i64 t309, .int .i64 t310], .int .i64 x6_2, .int .i64 x7_3] rfl (by (try simp only [List.map_toArray, List.map_cons, List.map_nil]); first | done | rfl | (simp only [List.length_drop, List.length_take]; rfl)) ?_; (with_reducible refine (layout_Home.calls t305 _ _ t306 t309 t310 x6_2 x7_3 t318 t319 t320 _ ?side1 ?side2 A29.out).mono ?_); (case side1 => repeat (first | exact (Kd.S_reads' HO_312001.out).2.2 | (with_reducible refine Kd.C_alloc ?_ _) | (with_reducible refine Kd.C_drewN ?_ _) | (with_reducible refine Kd.C_drew ?_))); (case side2 => exact (Kd.S_reads' HO_312001.out).2.1); rintro e w51 ⟨rfl, hb⟩; refine ⟨_, rfl, ?_⟩; have n0_ := Aside0.mk (Kd.R_below (by (with_reducible repeat (first | apply Kd.R_alloc | apply Kd.R_drewN | apply Kd.R_drew)); exact HO_5.out) hb); have n1_ := Aside0.mk (Kd.S_below (by (with_reducible repeat (first | apply Kd.S_alloc | apply Kd.S_drewN | apply Kd.S_drew)); exact HO_312001.out) hb); have n2_ := Aside0.mk (blk_below (g := gb311) (o := .cells #[.int .i64 t305, .slice Ao11 t306.length co11, .int .i64 t309, .int .i64 t310] 28 (0, 0)) (by (with_reducible repeat (first | refine blk_drewN ?_ _ | refine blk_drew ?_ | refine blk_alloc ?_ _)); exact BK311.out) hb); have n3_ := Aside0.mk (below_step (by repeat (first | (with_reducible first | exact HB.out | apply below_alloc | apply pw_below_drewN | apply below_drew1 | refine below_set ?_ GE311.out) | exact HB.out)) hb); clear HO_5; clear HO_312001; clear BK311; clear HB; have HO_5 := n0_; have HO_312001 := n1_; have BK311 := n2_; have HB := n3_; clear n0_ n1_ n2_ n3_; (try clear hb); (try clear hb2); (try clear hk); (try clear hi)) | ((with_reducible refine gate_dst (N := 8) rfl ?_); (try (refine gate_guard (by rfl) ?_; dsimp only)); refine box_event ?hg (N := 8) ?hd (cs := #[.int .i64 0, .int .i64 0]) (t := 31) ?hr ?_; (case hd => rfl); (case hg => rfl); (case hr => first | (go_simp; done) | (go_simp; rfl)); intro gb321 hg w52 hbox hb; have n0_ := Aside0.mk (Kd.R_below (by (with_reducible repeat (first | apply Kd.R_alloc | apply Kd.R_drewN | apply Kd.R_drew)); exact HO_5.out) hb); have n1_ := Aside0.mk (Kd.S_below (by (with_reducible repeat (first | apply Kd.S_alloc | apply Kd.S_drewN | apply Kd.S_drew)); exact HO_312001.out) hb); have n2_ := Aside0.mk (blk_below (g := gb311) (o := .cells #[.int .i64 t305, .slice Ao11 t306.length co11, .int .i64 t309, .int .i64 t310] 28 (0, 0)) (by (with_reducible repeat (first | refine blk_drewN ?_ _ | refine blk_drew ?_ | refine blk_alloc ?_ _)); exact BK311.out) hb); have n3_ := Aside0.mk (below_step (by repeat (first | (with_reducible first | exact HB.out | apply below_alloc | apply pw_below_drewN | apply below_drew1 | refine below_set ?_ GE311.out) | exact HB.out)) hb); have n4_ := Aside0.mk (hbox); have n5_ := Aside0.mk ((by rw [hg]; exact (below_size (by repeat (first | (with_reducible first | exact HB.out | apply below_alloc | apply pw_below_drewN | apply below_drew1 | refine below_set ?_ GE311.out) | exact HB.out))) : w.heap.size ≤ gb321)); have n6_ := Aside0.mk ((by rw [hg]; exact (below_size (by repeat (first | (with_reducible first | exact HB.out | apply below_alloc | apply pw_below_drewN | apply below_drew1 | refine below_set ?_ GE311.out) | exact HB.out))) : w.heap.size ≤ gb321)); have n7_ := Aside0.mk ((by rw [hg]; exact Nat.ne_of_lt (blk_lt (g := gb311) (o := .cells #[.int .i64 t305, .slice Ao11 t306.length co11, .int .i64 t309, .int .i64 t310] 28 (0, 0)) (by (with_reducible repeat (first | refine blk_drewN ?_ _ | refine blk_drew ?_ | refine blk_alloc ?_ _)); exact BK311.out)) : gb311 ≠ gb321)); have n8_ := Aside0.mk ((by rw [hg]; exact Nat.ne_of_gt (blk_lt (g := gb311) (o := .cells #[.int .i64 t305, .slice Ao11 t306.length co11, .int .i64 t309, .int .i64 t310] 28 (0, 0)) (by (with_reducible repeat (first | refine blk_drewN ?_ _ | refine blk_drew ?_ | refine blk_alloc ?_ _)); exact BK311.out)) : gb321 ≠ gb311)); clear HO_5; clear HO_312001; clear BK311; clear HB; have HO_5 := n0_; have HO_312001 := n1_; have BK311 := n2_; have HB := n3_; have BK321 := n4_; have GW321 := n5_; have GE321 := n6_; have NB311_321 := n7_; have NB321_311 := n8_; clear n0_ n1_ n2_ n3_ n4_ n5_ n6_ n7_ n8_; clear hb hbox hg; have hnb53 := NB321_311.out; have hnc53 := NB311_321.out; have hcz54_0 : w52.cell? ⟨gb321, 0, none⟩ = some (.int .i64 0) := (blk_cell BK321.out 0).trans rfl; have hcz54_1 : w52.cell? ⟨gb321, 1, none⟩ = some (.int .i64 0) := (blk_cell BK321.out 1).trans rfl; have hfz54_0 := blk_frozen BK321.out 0; have hfz54_1 := blk_frozen BK321.out 1))
                                  go_ret
                                  exact ⟨by first | rfl | (simp [errW_none, errW_some] <;> rfl) | (simp only [← hji17]; first | rfl | (simp [errW_none, errW_some] <;> rfl)) | (simp [*, errW_none, errW_some] <;> rfl), by repeat (first | (with_reducible first | exact HB.out | apply below_alloc | apply pw_below_drewN | apply below_drew1 | refine below_set ?_ GE311.out | refine below_set ?_ GE321.out) | exact HB.out)⟩
                                · rw [if_neg c47] at H
                                  have c47b0 : decide ((wrap64 ((wrap64 (t318 * (wrap64 (t312 - t310)))) + t319)) < 0) = false := decide_eq_false c47
                                  clear c47
                                  by_cases c55 : (wrap64 ((wrap64 (t318 * (wrap64 (t312 - t310)))) + t319)) ≥ (x5_3.length : Int)
                                  · rw [if_pos c55] at H
                                    have c55b0 : decide ((x5_3.length : Int) ≤ (wrap64 ((wrap64 (t318 * (wrap64 (t312 - t310)))) + t319))) = true := decide_eq_true c55
                                    clear c55
                                    obtain rfl := Option.some.inj H
                                    have hcz56_0 : wr.cell? ⟨gb311, 0, none⟩ = some (.int .i64 t305) := (blk_cell BK311.out 0).trans rfl
                                    have hcz56_1 : wr.cell? ⟨gb311, 1, none⟩ = some (.slice Ao11 t306.length co11) := (blk_cell BK311.out 1).trans rfl
                                    have hcz56_2 : wr.cell? ⟨gb311, 2, none⟩ = some (.int .i64 t309) := (blk_cell BK311.out 2).trans rfl
                                    have hcz56_3 : wr.cell? ⟨gb311, 3, none⟩ = some (.int .i64 t310) := (blk_cell BK311.out 3).trans rfl
                                    have hfz56_0 := blk_frozen BK311.out 0
                                    have hfz56_1 := blk_frozen BK311.out 1
                                    have hfz56_2 := blk_frozen BK311.out 2
                                    have hfz56_3 := blk_frozen BK311.out 3
                                    go_wp2_with (first | ((with_reducible refine gate_callee (f := 26) rfl ?_); refine goesL_ (some 41) rfl rfl Try.func26 (by kernel_rfl) rfl #[.agg #[.int .i64 t305, .slice Ao11 t306.length co11, .int .i64 t309, .int .i64 t310]] rfl (by (try simp only [List.map_toArray, List.map_cons, List.map_nil]); first | done | rfl | (simp only [List.length_drop, List.length_take]; rfl)) ?_; (with_reducible refine (layout_Width.calls t305 _ _ t306 t309 t310 t317 _ ?side1 ?side2 A27.out).mono ?_); (case side1 => repeat (first | exact (Kd.S_reads' HO_312001.out).2.2 | (with_reducible refine Kd.C_alloc ?_ _) | (with_reducible refine Kd.C_drewN ?_ _) | (with_reducible refine Kd.C_drew ?_))); (case side2 => exact (Kd.S_reads' HO_312001.out).2.1); rintro e w57 ⟨rfl, hb⟩; refine ⟨_, rfl, ?_⟩; have n0_ := Aside0.mk (Kd.R_below (by (with_reducible repeat (first | apply Kd.R_alloc | apply Kd.R_drewN | apply Kd.R_drew)); exact HO_5.out) hb); have n1_ := Aside0.mk (Kd.S_below (by (with_reducible repeat (first | apply Kd.S_alloc | apply Kd.S_drewN | apply Kd.S_drew)); exact HO_312001.out) hb); have n2_ := Aside0.mk (blk_below (g := gb311) (o := .cells #[.int .i64 t305, .slice Ao11 t306.length co11, .int .i64 t309, .int .i64 t310] 28 (0, 0)) (by (with_reducible repeat (first | refine blk_drewN ?_ _ | refine blk_drew ?_ | refine blk_alloc ?_ _)); exact BK311.out) hb); have n3_ := Aside0.mk (below_step (by repeat (first | (with_reducible first | exact HB.out | apply below_alloc | apply pw_below_drewN | apply below_drew1 | refine below_set ?_ GE311.out) | exact HB.out)) hb); clear HO_5; clear HO_312001; clear BK311; clear HB; have HO_5 := n0_; have HO_312001 := n1_; have BK311 := n2_; have HB := n3_; clear n0_ n1_ n2_ n3_; (try clear hb); (try clear hb2); (try clear hk); (try clear hi); have hcz58_0 : w57.cell? ⟨gb311, 0, none⟩ = some (.int .i64 t305) := (blk_cell BK311.out 0).trans rfl; have hcz58_1 : w57.cell? ⟨gb311, 1, none⟩ = some (.slice Ao11 t306.length co11) := (blk_cell BK311.out 1).trans rfl; have hcz58_2 : w57.cell? ⟨gb311, 2, none⟩ = some (.int .i64 t309) := (blk_cell BK311.out 2).trans rfl; have hcz58_3 : w57.cell? ⟨gb311, 3, none⟩ = some (.int .i64 t310) := (blk_cell BK311.out 3).trans rfl; have hfz58_0 := blk_frozen BK311.out 0; have hfz58_1 := blk_frozen BK311.out 1; have hfz58_2 := blk_frozen BK311.out 2; have hfz58_3 := blk_frozen BK311.out 3) | ((with_reducible refine gate_callee (f := 15) rfl ?_); refine goesL_ (some 49) rfl rfl Try.func15 (by kernel_rfl) rfl #[.agg #[.int .i64 t305, .slice Ao11 t306.length co11, .int .i64 t309, .int .i64 t310], .int .i64 x6_2, .int .i64 x7_3] rfl (by (try simp only [List.map_toArray, List.map_cons, List.map_nil]); first | done | rfl | (simp only [List.length_drop, List.length_take]; rfl)) ?_; (with_reducible refine (layout_Home.calls t305 _ _ t306 t309 t310 x6_2 x7_3 t318 t319 t320 _ ?side1 ?side2 A29.out).mono ?_); (case side1 => repeat (first | exact (Kd.S_reads' HO_312001.out).2.2 | (with_reducible refine Kd.C_alloc ?_ _) | (with_reducible refine Kd.C_drewN ?_ _) | (with_reducible refine Kd.C_drew ?_))); (case side2 => exact (Kd.S_reads' HO_312001.out).2.1); rintro e w59 ⟨rfl, hb⟩; refine ⟨_, rfl, ?_⟩; have n0_ := Aside0.mk (Kd.R_below (by (with_reducible repeat (first | apply Kd.R_alloc | apply Kd.R_drewN | apply Kd.R_drew)); exact HO_5.out) hb); have n1_ := Aside0.mk (Kd.S_below (by (with_reducible repeat (first | apply Kd.S_alloc | apply Kd.S_drewN | apply Kd.S_drew)); exact HO_312001.out) hb); have n2_ := Aside0.mk (blk_below (g := gb311) (o := .cells #[.int .i64 t305, .slice Ao11 t306.length co11, .int .i64 t309, .int .i64 t310] 28 (0, 0)) (by (with_reducible repeat (first | refine blk_drewN ?_ _ | refine blk_drew ?_ | refine blk_alloc ?_ _)); exact BK311.out) hb); have n3_ := Aside0.mk (below_step (by repeat (first | (with_reducible first | exact HB.out | apply below_alloc | apply pw_below_drewN | apply below_drew1 | refine below_set ?_ GE311.out) | exact HB.out)) hb); clear HO_5; clear HO_312001; clear BK311; clear HB; have HO_5 := n0_; have HO_312001 := n1_; have BK311 := n2_; have HB := n3_; clear n0_ n1_ n2_ n3_; (try clear hb); (try clear hb2); (try clear hk); (try clear hi)) | ((with_reducible refine gate_dst (N := 8) rfl ?_); (try (refine gate_guard (by rfl) ?_; dsimp only)); refine box_event ?hg (N := 8) ?hd (cs := #[.int .i64 0, .int .i64 0]) (t := 31) ?hr ?_; (case hd => rfl); (case hg => rfl); (case hr => first | (go_simp; done) | (go_simp; rfl)); intro gb321 hg w60 hbox hb; have n0_ := Aside0.mk (Kd.R_below (by (with_reducible repeat (first | apply Kd.R_alloc | apply Kd.R_drewN | apply Kd.R_drew)); exact HO_5.out) hb); have n1_ := Aside0.mk (Kd.S_below (by (with_reducible repeat (first | apply Kd.S_alloc | apply Kd.S_drewN | apply Kd.S_drew)); exact HO_312001.out) hb); have n2_ := Aside0.mk (blk_below (g := gb311) (o := .cells #[.int .i64 t305, .slice Ao11 t306.length co11, .int .i64 t309, .int .i64 t310] 28 (0, 0)) (by (with_reducible repeat (first | refine blk_drewN ?_ _ | refine blk_drew ?_ | refine blk_alloc ?_ _)); exact BK311.out) hb); have n3_ := Aside0.mk (below_step (by repeat (first | (with_reducible first | exact HB.out | apply below_alloc | apply pw_below_drewN | apply below_drew1 | refine below_set ?_ GE311.out) | exact HB.out)) hb); have n4_ := Aside0.mk (hbox); have n5_ := Aside0.mk ((by rw [hg]; exact (below_size (by repeat (first | (with_reducible first | exact HB.out | apply below_alloc | apply pw_below_drewN | apply below_drew1 | refine below_set ?_ GE311.out) | exact HB.out))) : w.heap.size ≤ gb321)); have n6_ := Aside0.mk ((by rw [hg]; exact (below_size (by repeat (first | (with_reducible first | exact HB.out | apply below_alloc | apply pw_below_drewN | apply below_drew1 | refine below_set ?_ GE311.out) | exact HB.out))) : w.heap.size ≤ gb321)); have n7_ := Aside0.mk ((by rw [hg]; exact Nat.ne_of_lt (blk_lt (g := gb311) (o := .cells #[.int .i64 t305, .slice Ao11 t306.length co11, .int .i64 t309, .int .i64 t310] 28 (0, 0)) (by (with_reducible repeat (first | refine blk_drewN ?_ _ | refine blk_drew ?_ | refine blk_alloc ?_ _)); exact BK311.out)) : gb311 ≠ gb321)); have n8_ := Aside0.mk ((by rw [hg]; exact Nat.ne_of_gt (blk_lt (g := gb311) (o := .cells #[.int .i64 t305, .slice Ao11 t306.length co11, .int .i64 t309, .int .i64 t310] 28 (0, 0)) (by (with_reducible repeat (first | refine blk_drewN ?_ _ | refine blk_drew ?_ | refine blk_alloc ?_ _)); exact BK311.out)) : gb321 ≠ gb311)); clear HO_5; clear HO_312001; clear BK311; clear HB; have HO_5 := n0_; have HO_312001 := n1_; have BK311 := n2_; have HB := n3_; have BK321 := n4_; have GW321 := n5_; have GE321 := n6_; have NB311_321 := n7_; have NB321_311 := n8_; clear n0_ n1_ n2_ n3_ n4_ n5_ n6_ n7_ n8_; clear hb hbox hg; have hnb61 := NB321_311.out; have hnc61 := NB311_321.out; have hcz62_0 : w60.cell? ⟨gb321, 0, none⟩ = some (.int .i64 0) := (blk_cell BK321.out 0).trans rfl; have hcz62_1 : w60.cell? ⟨gb321, 1, none⟩ = some (.int .i64 0) := (blk_cell BK321.out 1).trans rfl; have hfz62_0 := blk_frozen BK321.out 0; have hfz62_1 := blk_frozen BK321.out 1; obtain ⟨Ao63, co63, eo63⟩ := Kd.R_slice HO_5.out; subst eo63))
                                    go_ret
                                    exact ⟨by first | rfl | (simp [errW_none, errW_some] <;> rfl) | (simp only [← hji17]; first | rfl | (simp [errW_none, errW_some] <;> rfl)) | (simp [*, errW_none, errW_some] <;> rfl), by repeat (first | (with_reducible first | exact HB.out | apply below_alloc | apply pw_below_drewN | apply below_drew1 | refine below_set ?_ GE311.out | refine below_set ?_ GE321.out) | exact HB.out)⟩
                                  · rw [if_neg c55] at H
                                    have c55b0 : decide ((x5_3.length : Int) ≤ (wrap64 ((wrap64 (t318 * (wrap64 (t312 - t310)))) + t319))) = false := decide_eq_false c55
                                    clear c55
                                    obtain ⟨ji64, hji64⟩ : ∃ j_ : Int, (wrap64 ((wrap64 (t318 * (wrap64 (t312 - t310)))) + t319)) = j_ := ⟨_, rfl⟩
                                    replace H : (if 0 ≤ (ji64) then (if (ji64) < (x5_3.length : Int) then (if rdOf false x5_3 (ji64) = true then (some false) else (tegulalaw21_LayoutFull.l1 k3 (wrap64 (t312 - t310)) (x5_3.set ((ji64) : Int).toNat true) x6_2 (wrap64 (x7_3 + 1)) t305 t306 t309 t310)) else (none)) else (none)) = some r := by first | (rw [hji64] at H; exact H) | (simp only [hji64] at H ⊢; exact H)
                                    (try rw [hji64] at c47b0)
                                    (try rw [hji64] at c55b0)
                                    (try rw [hji64] at A27)
                                    (try rw [hji64] at A29)
                                    have hji64w : (IntKind.i64.wrap ((wrap64 (t318 * (wrap64 (t312 - t310)))) + t319)) = ji64 := (i64_w _).trans hji64
                                    by_cases c65 : 0 ≤ (ji64)
                                    · rw [if_pos c65] at H
                                      have c65b0 : decide (0 ≤ (ji64)) = true := decide_eq_true c65
                                      clear c65
                                      by_cases c66 : (ji64) < (x5_3.length : Int)
                                      · rw [if_pos c66] at H
                                        have c66b0 : decide ((ji64) < (x5_3.length : Int)) = true := decide_eq_true c66
                                        clear c66
                                        obtain ⟨bq67, hbq67⟩ : ∃ b_ : Bool, b_ = (rdOf false x5_3 (ji64)) := ⟨_, rfl⟩
                                        replace H : (if bq67 = true then (some false) else (tegulalaw21_LayoutFull.l1 k3 (wrap64 (t312 - t310)) (x5_3.set ((ji64) : Int).toNat true) x6_2 (wrap64 (x7_3 + 1)) t305 t306 t309 t310)) = some r := by rw [← hbq67] at H; exact H
                                        have Nbq67 := Aside0.mk hbq67
                                        clear hbq67
                                        by_cases c68 : bq67 = true
                                        · subst c68
                                          have H1 : (some false) = some r := by rw [if_pos rfl] at H; exact H
                                          clear H
                                          have H := H1
                                          clear H1
                                          obtain rfl := Option.some.inj H
                                          have hcz69_0 : wr.cell? ⟨gb311, 0, none⟩ = some (.int .i64 t305) := (blk_cell BK311.out 0).trans rfl
                                          have hcz69_1 : wr.cell? ⟨gb311, 1, none⟩ = some (.slice Ao11 t306.length co11) := (blk_cell BK311.out 1).trans rfl
                                          have hcz69_2 : wr.cell? ⟨gb311, 2, none⟩ = some (.int .i64 t309) := (blk_cell BK311.out 2).trans rfl
                                          have hcz69_3 : wr.cell? ⟨gb311, 3, none⟩ = some (.int .i64 t310) := (blk_cell BK311.out 3).trans rfl
                                          have hfz69_0 := blk_frozen BK311.out 0
                                          have hfz69_1 := blk_frozen BK311.out 1
                                          have hfz69_2 := blk_frozen BK311.out 2
                                          have hfz69_3 := blk_frozen BK311.out 3
                                          go_wp2_with (first | ((with_reducible refine gate_callee (f := 26) rfl ?_); refine goesL_ (some 41) rfl rfl Try.func26 (by kernel_rfl) rfl #[.agg #[.int .i64 t305, .slice Ao11 t306.length co11, .int .i64 t309, .int .i64 t310]] rfl (by (try simp only [List.map_toArray, List.map_cons, List.map_nil]); first | done | rfl | (simp only [List.length_drop, List.length_take]; rfl)) ?_; (with_reducible refine (layout_Width.calls t305 _ _ t306 t309 t310 t317 _ ?side1 ?side2 A27.out).mono ?_); (case side1 => repeat (first | exact (Kd.S_reads' HO_312001.out).2.2 | (with_reducible refine Kd.C_alloc ?_ _) | (with_reducible refine Kd.C_drewN ?_ _) | (with_reducible refine Kd.C_drew ?_))); (case side2 => exact (Kd.S_reads' HO_312001.out).2.1); rintro e w70 ⟨rfl, hb⟩; refine ⟨_, rfl, ?_⟩; have n0_ := Aside0.mk (Kd.R_below (by (with_reducible repeat (first | apply Kd.R_alloc | apply Kd.R_drewN | apply Kd.R_drew)); exact HO_5.out) hb); have n1_ := Aside0.mk (Kd.S_below (by (with_reducible repeat (first | apply Kd.S_alloc | apply Kd.S_drewN | apply Kd.S_drew)); exact HO_312001.out) hb); have n2_ := Aside0.mk (blk_below (g := gb311) (o := .cells #[.int .i64 t305, .slice Ao11 t306.length co11, .int .i64 t309, .int .i64 t310] 28 (0, 0)) (by (with_reducible repeat (first | refine blk_drewN ?_ _ | refine blk_drew ?_ | refine blk_alloc ?_ _)); exact BK311.out) hb); have n3_ := Aside0.mk (below_step (by repeat (first | (with_reducible first | exact HB.out | apply below_alloc | apply pw_below_drewN | apply below_drew1 | refine below_set ?_ GE311.out) | exact HB.out)) hb); clear HO_5; clear HO_312001; clear BK311; clear HB; have HO_5 := n0_; have HO_312001 := n1_; have BK311 := n2_; have HB := n3_; clear n0_ n1_ n2_ n3_; (try clear hb); (try clear hb2); (try clear hk); (try clear hi); have hcz71_0 : w70.cell? ⟨gb311, 0, none⟩ = some (.int .i64 t305) := (blk_cell BK311.out 0).trans rfl; have hcz71_1 : w70.cell? ⟨gb311, 1, none⟩ = some (.slice Ao11 t306.length co11) := (blk_cell BK311.out 1).trans rfl; have hcz71_2 : w70.cell? ⟨gb311, 2, none⟩ = some (.int .i64 t309) := (blk_cell BK311.out 2).trans rfl; have hcz71_3 : w70.cell? ⟨gb311, 3, none⟩ = some (.int .i64 t310) := (blk_cell BK311.out 3).trans rfl; have hfz71_0 := blk_frozen BK311.out 0; have hfz71_1 := blk_frozen BK311.out 1; have hfz71_2 := blk_frozen BK311.out 2; have hfz71_3 := blk_frozen BK311.out 3) | ((with_reducible refine gate_callee (f := 15) rfl ?_); refine goesL_ (some 49) rfl rfl Try.func15 (by kernel_rfl) rfl #[.agg #[.int .i64 t305, .slice Ao11 t306.length co11, .int .i64 t309, .int .i64 t310], .int .i64 x6_2, .int .i64 x7_3] rfl (by (try simp only [List.map_toArray, List.map_cons, List.map_nil]); first | done | rfl | (simp only [List.length_drop, List.length_take]; rfl)) ?_; (with_reducible refine (layout_Home.calls t305 _ _ t306 t309 t310 x6_2 x7_3 t318 t319 t320 _ ?side1 ?side2 A29.out).mono ?_); (case side1 => repeat (first | exact (Kd.S_reads' HO_312001.out).2.2 | (with_reducible refine Kd.C_alloc ?_ _) | (with_reducible refine Kd.C_drewN ?_ _) | (with_reducible refine Kd.C_drew ?_))); (case side2 => exact (Kd.S_reads' HO_312001.out).2.1); rintro e w72 ⟨rfl, hb⟩; refine ⟨_, rfl, ?_⟩; have n0_ := Aside0.mk (Kd.R_below (by (with_reducible repeat (first | apply Kd.R_alloc | apply Kd.R_drewN | apply Kd.R_drew)); exact HO_5.out) hb); have n1_ := Aside0.mk (Kd.S_below (by (with_reducible repeat (first | apply Kd.S_alloc | apply Kd.S_drewN | apply Kd.S_drew)); exact HO_312001.out) hb); have n2_ := Aside0.mk (blk_below (g := gb311) (o := .cells #[.int .i64 t305, .slice Ao11 t306.length co11, .int .i64 t309, .int .i64 t310] 28 (0, 0)) (by (with_reducible repeat (first | refine blk_drewN ?_ _ | refine blk_drew ?_ | refine blk_alloc ?_ _)); exact BK311.out) hb); have n3_ := Aside0.mk (below_step (by repeat (first | (with_reducible first | exact HB.out | apply below_alloc | apply pw_below_drewN | apply below_drew1 | refine below_set ?_ GE311.out) | exact HB.out)) hb); clear HO_5; clear HO_312001; clear BK311; clear HB; have HO_5 := n0_; have HO_312001 := n1_; have BK311 := n2_; have HB := n3_; clear n0_ n1_ n2_ n3_; (try clear hb); (try clear hb2); (try clear hk); (try clear hi)) | ((with_reducible refine gate_dst (N := 8) rfl ?_); (try (refine gate_guard (by rfl) ?_; dsimp only)); refine box_event ?hg (N := 8) ?hd (cs := #[.int .i64 0, .int .i64 0]) (t := 31) ?hr ?_; (case hd => rfl); (case hg => rfl); (case hr => first | (go_simp; done) | (go_simp; rfl)); intro gb321 hg w73 hbox hb; have n0_ := Aside0.mk (Kd.R_below (by (with_reducible repeat (first | apply Kd.R_alloc | apply Kd.R_drewN | apply Kd.R_drew)); exact HO_5.out) hb); have n1_ := Aside0.mk (Kd.S_below (by (with_reducible repeat (first | apply Kd.S_alloc | apply Kd.S_drewN | apply Kd.S_drew)); exact HO_312001.out) hb); have n2_ := Aside0.mk (blk_below (g := gb311) (o := .cells #[.int .i64 t305, .slice Ao11 t306.length co11, .int .i64 t309, .int .i64 t310] 28 (0, 0)) (by (with_reducible repeat (first | refine blk_drewN ?_ _ | refine blk_drew ?_ | refine blk_alloc ?_ _)); exact BK311.out) hb); have n3_ := Aside0.mk (below_step (by repeat (first | (with_reducible first | exact HB.out | apply below_alloc | apply pw_below_drewN | apply below_drew1 | refine below_set ?_ GE311.out) | exact HB.out)) hb); have n4_ := Aside0.mk (hbox); have n5_ := Aside0.mk ((by rw [hg]; exact (below_size (by repeat (first | (with_reducible first | exact HB.out | apply below_alloc | apply pw_below_drewN | apply below_drew1 | refine below_set ?_ GE311.out) | exact HB.out))) : w.heap.size ≤ gb321)); have n6_ := Aside0.mk ((by rw [hg]; exact (below_size (by repeat (first | (with_reducible first | exact HB.out | apply below_alloc | apply pw_below_drewN | apply below_drew1 | refine below_set ?_ GE311.out) | exact HB.out))) : w.heap.size ≤ gb321)); have n7_ := Aside0.mk ((by rw [hg]; exact Nat.ne_of_lt (blk_lt (g := gb311) (o := .cells #[.int .i64 t305, .slice Ao11 t306.length co11, .int .i64 t309, .int .i64 t310] 28 (0, 0)) (by (with_reducible repeat (first | refine blk_drewN ?_ _ | refine blk_drew ?_ | refine blk_alloc ?_ _)); exact BK311.out)) : gb311 ≠ gb321)); have n8_ := Aside0.mk ((by rw [hg]; exact Nat.ne_of_gt (blk_lt (g := gb311) (o := .cells #[.int .i64 t305, .slice Ao11 t306.length co11, .int .i64 t309, .int .i64 t310] 28 (0, 0)) (by (with_reducible repeat (first | refine blk_drewN ?_ _ | refine blk_drew ?_ | refine blk_alloc ?_ _)); exact BK311.out)) : gb321 ≠ gb311)); clear HO_5; clear HO_312001; clear BK311; clear HB; have HO_5 := n0_; have HO_312001 := n1_; have BK311 := n2_; have HB := n3_; have BK321 := n4_; have GW321 := n5_; have GE321 := n6_; have NB311_321 := n7_; have NB321_311 := n8_; clear n0_ n1_ n2_ n3_ n4_ n5_ n6_ n7_ n8_; clear hb hbox hg; have hnb74 := NB321_311.out; have hnc74 := NB311_321.out; have hcz75_0 : w73.cell? ⟨gb321, 0, none⟩ = some (.int .i64 0) := (blk_cell BK321.out 0).trans rfl; have hcz75_1 : w73.cell? ⟨gb321, 1, none⟩ = some (.int .i64 0) := (blk_cell BK321.out 1).trans rfl; have hfz75_0 := blk_frozen BK321.out 0; have hfz75_1 := blk_frozen BK321.out 1; obtain ⟨Ao76, co76, eo76⟩ := Kd.R_slice HO_5.out; subst eo76; have p322 : 0 ≤ ((ji64) : Int) := of_decide_eq_true (by first | (with_reducible assumption) | assumption); have q322 : (ji64) < (x5_3.length : Int) := of_decide_eq_true (by first | (with_reducible assumption) | assumption); obtain ⟨ad322, e322, hx322_0⟩ := Kd.at_bool (Kd.R_reads' HO_5.out).2.2 (ji64) p322 q322; (try rw [← Nbq67.out] at hx322_0); cases e322; have hn322_0 : ad322.block ≠ gb321 := Kd.own_blk (Kd.R_ne HO_5.out BK321.out (by decide)); have hn322_1 : ad322.block ≠ gb321 := Kd.own_blk (Kd.R_ne HO_5.out BK321.out (by decide)); replace hx322_0 := (cell_far (p := ⟨gb321, 0, none⟩) (by first | (rw [add_block]; exact hn322_0) | (show (Addr.add _ _).block ≠ _; rw [add_block]; exact hn322_0) | exact hn322_0) (.int .i64 t318)).trans hx322_0; replace hx322_0 := (cell_far (p := ⟨gb321, 1, none⟩) (by first | (rw [add_block]; exact hn322_1) | (show (Addr.add _ _).block ≠ _; rw [add_block]; exact hn322_1) | exact hn322_1) (.int .i64 t319)).trans hx322_0; clear hn322_0; clear hn322_1; replace p322 := eq_true p322; replace q322 := eq_true q322))
                                          go_ret
                                          exact ⟨by first | rfl | (simp [errW_none, errW_some] <;> rfl) | (simp only [← hji17, ← hji64]; first | rfl | (simp [errW_none, errW_some] <;> rfl)) | (simp [*, errW_none, errW_some] <;> rfl), by repeat (first | (with_reducible first | exact HB.out | apply below_alloc | apply pw_below_drewN | apply below_drew1 | refine below_set ?_ GE311.out | refine below_set ?_ GE321.out) | exact HB.out)⟩
                                        · replace c68 := Bool.eq_false_iff.mpr c68
                                          subst c68
                                          have H1 : (tegulalaw21_LayoutFull.l1 k3 (wrap64 (t312 - t310)) (x5_3.set ((ji64) : Int).toNat true) x6_2 (wrap64 (x7_3 + 1)) t305 t306 t309 t310) = some r := by rw [if_neg (show ¬ (false = true) by decide)] at H; exact H
                                          clear H
                                          have H := H1
                                          clear H1
                                          obtain ⟨y323, hy323⟩ : ∃ y_ : List Bool, y_ = (x5_3.set ((ji64) : Int).toNat true) := ⟨_, rfl⟩
                                          replace H : (tegulalaw21_LayoutFull.l1 k3 (wrap64 (t312 - t310)) y323 x6_2 (wrap64 (x7_3 + 1)) t305 t306 t309 t310) = some r := by first | (rw [hy323]; with_reducible exact H) | (have H2_ := (Option.bind_some _ _).symm.trans H; rw [hy323]; with_reducible exact H2_) | (have H2_ := (Option.bind_some _ _).symm.trans H; with_reducible exact H2_) | with_reducible exact H | (rw [hy323]; exact H) | exact H
                                          have Ny323 := Aside0.mk hy323
                                          clear hy323
                                          have H' := Aside0.mk H
                                          clear H
                                          have hcz78_0 : wr.cell? ⟨gb311, 0, none⟩ = some (.int .i64 t305) := (blk_cell BK311.out 0).trans rfl
                                          have hcz78_1 : wr.cell? ⟨gb311, 1, none⟩ = some (.slice Ao11 t306.length co11) := (blk_cell BK311.out 1).trans rfl
                                          have hcz78_2 : wr.cell? ⟨gb311, 2, none⟩ = some (.int .i64 t309) := (blk_cell BK311.out 2).trans rfl
                                          have hcz78_3 : wr.cell? ⟨gb311, 3, none⟩ = some (.int .i64 t310) := (blk_cell BK311.out 3).trans rfl
                                          have hfz78_0 := blk_frozen BK311.out 0
                                          have hfz78_1 := blk_frozen BK311.out 1
                                          have hfz78_2 := blk_frozen BK311.out 2
                                          have hfz78_3 := blk_frozen BK311.out 3
                                          go_wp2_with (first | ((with_reducible refine gate_callee (f := 26) rfl ?_); refine goesL_ (some 41) rfl rfl Try.func26 (by kernel_rfl) rfl #[.agg #[.int .i64 t305, .slice Ao11 t306.length co11, .int .i64 t309, .int .i64 t310]] rfl (by (try simp only [List.map_toArray, List.map_cons, List.map_nil]); first | done | rfl | (simp only [List.length_drop, List.length_take]; rfl)) ?_; (with_reducible refine (layout_Width.calls t305 _ _ t306 t309 t310 t317 _ ?side1 ?side2 A27.out).mono ?_); (case side1 => repeat (first | exact (Kd.S_reads' HO_312001.out).2.2 | (with_reducible refine Kd.C_alloc ?_ _) | (with_reducible refine Kd.C_drewN ?_ _) | (with_reducible refine Kd.C_drew ?_))); (case side2 => exact (Kd.S_reads' HO_312001.out).2.1); rintro e w79 ⟨rfl, hb⟩; refine ⟨_, rfl, ?_⟩; have n0_ := Aside0.mk (Kd.R_below (by (with_reducible repeat (first | apply Kd.R_alloc | apply Kd.R_drewN | apply Kd.R_drew)); exact HO_5.out) hb); have n1_ := Aside0.mk (Kd.S_below (by (with_reducible repeat (first | apply Kd.S_alloc | apply Kd.S_drewN | apply Kd.S_drew)); exact HO_312001.out) hb); have n2_ := Aside0.mk (blk_below (g := gb311) (o := .cells #[.int .i64 t305, .slice Ao11 t306.length co11, .int .i64 t309, .int .i64 t310] 28 (0, 0)) (by (with_reducible repeat (first | refine blk_drewN ?_ _ | refine blk_drew ?_ | refine blk_alloc ?_ _)); exact BK311.out) hb); have n3_ := Aside0.mk (below_step (by repeat (first | (with_reducible first | exact HB.out | apply below_alloc | apply pw_below_drewN | apply below_drew1 | refine below_set ?_ GE311.out) | exact HB.out)) hb); clear HO_5; clear HO_312001; clear BK311; clear HB; have HO_5 := n0_; have HO_312001 := n1_; have BK311 := n2_; have HB := n3_; clear n0_ n1_ n2_ n3_; (try clear hb); (try clear hb2); (try clear hk); (try clear hi); have hcz80_0 : w79.cell? ⟨gb311, 0, none⟩ = some (.int .i64 t305) := (blk_cell BK311.out 0).trans rfl; have hcz80_1 : w79.cell? ⟨gb311, 1, none⟩ = some (.slice Ao11 t306.length co11) := (blk_cell BK311.out 1).trans rfl; have hcz80_2 : w79.cell? ⟨gb311, 2, none⟩ = some (.int .i64 t309) := (blk_cell BK311.out 2).trans rfl; have hcz80_3 : w79.cell? ⟨gb311, 3, none⟩ = some (.int .i64 t310) := (blk_cell BK311.out 3).trans rfl; have hfz80_0 := blk_frozen BK311.out 0; have hfz80_1 := blk_frozen BK311.out 1; have hfz80_2 := blk_frozen BK311.out 2; have hfz80_3 := blk_frozen BK311.out 3) | ((with_reducible refine gate_callee (f := 15) rfl ?_); refine goesL_ (some 49) rfl rfl Try.func15 (by kernel_rfl) rfl #[.agg #[.int .i64 t305, .slice Ao11 t306.length co11, .int .i64 t309, .int .i64 t310], .int .i64 x6_2, .int .i64 x7_3] rfl (by (try simp only [List.map_toArray, List.map_cons, List.map_nil]); first | done | rfl | (simp only [List.length_drop, List.length_take]; rfl)) ?_; (with_reducible refine (layout_Home.calls t305 _ _ t306 t309 t310 x6_2 x7_3 t318 t319 t320 _ ?side1 ?side2 A29.out).mono ?_); (case side1 => repeat (first | exact (Kd.S_reads' HO_312001.out).2.2 | (with_reducible refine Kd.C_alloc ?_ _) | (with_reducible refine Kd.C_drewN ?_ _) | (with_reducible refine Kd.C_drew ?_))); (case side2 => exact (Kd.S_reads' HO_312001.out).2.1); rintro e w81 ⟨rfl, hb⟩; refine ⟨_, rfl, ?_⟩; have n0_ := Aside0.mk (Kd.R_below (by (with_reducible repeat (first | apply Kd.R_alloc | apply Kd.R_drewN | apply Kd.R_drew)); exact HO_5.out) hb); have n1_ := Aside0.mk (Kd.S_below (by (with_reducible repeat (first | apply Kd.S_alloc | apply Kd.S_drewN | apply Kd.S_drew)); exact HO_312001.out) hb); have n2_ := Aside0.mk (blk_below (g := gb311) (o := .cells #[.int .i64 t305, .slice Ao11 t306.length co11, .int .i64 t309, .int .i64 t310] 28 (0, 0)) (by (with_reducible repeat (first | refine blk_drewN ?_ _ | refine blk_drew ?_ | refine blk_alloc ?_ _)); exact BK311.out) hb); have n3_ := Aside0.mk (below_step (by repeat (first | (with_reducible first | exact HB.out | apply below_alloc | apply pw_below_drewN | apply below_drew1 | refine below_set ?_ GE311.out) | exact HB.out)) hb); clear HO_5; clear HO_312001; clear BK311; clear HB; have HO_5 := n0_; have HO_312001 := n1_; have BK311 := n2_; have HB := n3_; clear n0_ n1_ n2_ n3_; (try clear hb); (try clear hb2); (try clear hk); (try clear hi)) | ((with_reducible refine gate_dst (N := 8) rfl ?_); (try (refine gate_guard (by rfl) ?_; dsimp only)); refine box_event ?hg (N := 8) ?hd (cs := #[.int .i64 0, .int .i64 0]) (t := 31) ?hr ?_; (case hd => rfl); (case hg => rfl); (case hr => first | (go_simp; done) | (go_simp; rfl)); intro gb321 hg w82 hbox hb; have n0_ := Aside0.mk (Kd.R_below (by (with_reducible repeat (first | apply Kd.R_alloc | apply Kd.R_drewN | apply Kd.R_drew)); exact HO_5.out) hb); have n1_ := Aside0.mk (Kd.S_below (by (with_reducible repeat (first | apply Kd.S_alloc | apply Kd.S_drewN | apply Kd.S_drew)); exact HO_312001.out) hb); have n2_ := Aside0.mk (blk_below (g := gb311) (o := .cells #[.int .i64 t305, .slice Ao11 t306.length co11, .int .i64 t309, .int .i64 t310] 28 (0, 0)) (by (with_reducible repeat (first | refine blk_drewN ?_ _ | refine blk_drew ?_ | refine blk_alloc ?_ _)); exact BK311.out) hb); have n3_ := Aside0.mk (below_step (by repeat (first | (with_reducible first | exact HB.out | apply below_alloc | apply pw_below_drewN | apply below_drew1 | refine below_set ?_ GE311.out) | exact HB.out)) hb); have n4_ := Aside0.mk (hbox); have n5_ := Aside0.mk ((by rw [hg]; exact (below_size (by repeat (first | (with_reducible first | exact HB.out | apply below_alloc | apply pw_below_drewN | apply below_drew1 | refine below_set ?_ GE311.out) | exact HB.out))) : w.heap.size ≤ gb321)); have n6_ := Aside0.mk ((by rw [hg]; exact (below_size (by repeat (first | (with_reducible first | exact HB.out | apply below_alloc | apply pw_below_drewN | apply below_drew1 | refine below_set ?_ GE311.out) | exact HB.out))) : w.heap.size ≤ gb321)); have n7_ := Aside0.mk ((by rw [hg]; exact Nat.ne_of_lt (blk_lt (g := gb311) (o := .cells #[.int .i64 t305, .slice Ao11 t306.length co11, .int .i64 t309, .int .i64 t310] 28 (0, 0)) (by (with_reducible repeat (first | refine blk_drewN ?_ _ | refine blk_drew ?_ | refine blk_alloc ?_ _)); exact BK311.out)) : gb311 ≠ gb321)); have n8_ := Aside0.mk ((by rw [hg]; exact Nat.ne_of_gt (blk_lt (g := gb311) (o := .cells #[.int .i64 t305, .slice Ao11 t306.length co11, .int .i64 t309, .int .i64 t310] 28 (0, 0)) (by (with_reducible repeat (first | refine blk_drewN ?_ _ | refine blk_drew ?_ | refine blk_alloc ?_ _)); exact BK311.out)) : gb321 ≠ gb311)); clear HO_5; clear HO_312001; clear BK311; clear HB; have HO_5 := n0_; have HO_312001 := n1_; have BK311 := n2_; have HB := n3_; have BK321 := n4_; have GW321 := n5_; have GE321 := n6_; have NB311_321 := n7_; have NB321_311 := n8_; clear n0_ n1_ n2_ n3_ n4_ n5_ n6_ n7_ n8_; clear hb hbox hg; have hnb83 := NB321_311.out; have hnc83 := NB311_321.out; have hcz84_0 : w82.cell? ⟨gb321, 0, none⟩ = some (.int .i64 0) := (blk_cell BK321.out 0).trans rfl; have hcz84_1 : w82.cell? ⟨gb321, 1, none⟩ = some (.int .i64 0) := (blk_cell BK321.out 1).trans rfl; have hfz84_0 := blk_frozen BK321.out 0; have hfz84_1 := blk_frozen BK321.out 1) | ((with_reducible refine gate_store (t := 31) (p := 8) rfl ?_); refine store_event (t := 31) (p := 8) (v := ?vo_w85) (w1 := ((w82.setCell ⟨gb321, 0, none⟩ (.int .i64 t318)).setCell ⟨gb321, 1, none⟩ (.int .i64 t319))) ?hg ?ho ?hn ?hr ?_; (case ho => rfl); (case hg => rfl); (case hn => rfl); (case hr => first | (go_simp; done) | (go_simp; rfl)); intro w85 hw; have n0_ : Aside0 (Kd.R Kd.bool 4 w85 w.heap.size (fun _ => True) v314 x5_3) := ⟨(by rw [hw]; exact (by (with_reducible repeat (first | apply Kd.R_alloc | apply Kd.R_drewN | apply Kd.R_drew)); exact Kd.R_mono (Kd.R_far (p := ⟨gb321, 1, none⟩) (Kd.R_far (p := ⟨gb321, 0, none⟩) (Kd.R_types HO_5.out BK321.out (by decide)) (fun _ hk => hk.2) (.int .i64 t318)) (fun _ hk => hk.2) (.int .i64 t319)) (fun _ hk => trivial)))⟩; have n1_ : Aside0 (Kd.S (Kd.slice 3 (Kd.int .i64)) 56 w85 w.heap.size (fun _ => True) (.slice Ao11 t306.length co11) t306) := ⟨(by rw [hw]; exact (by (with_reducible repeat (first | apply Kd.S_alloc | apply Kd.S_drewN | apply Kd.S_drew)); exact Kd.S_mono (Kd.S_far (p := ⟨gb321, 1, none⟩) (Kd.S_far (p := ⟨gb321, 0, none⟩) (Kd.S_types HO_312001.out BK321.out (by decide)) (fun _ hk => hk.2) (.int .i64 t318)) (fun _ hk => hk.2) (.int .i64 t319)) (fun _ hk => trivial)))⟩; have n2_ : Aside0 (w85.heap[gb311]? = some (.cells #[.int .i64 t305, .slice Ao11 t306.length co11, .int .i64 t309, .int .i64 t310] 28 (0, 0))) := ⟨(by rw [hw]; exact (by (with_reducible repeat (first | refine blk_drewN ?_ _ | refine blk_drew ?_ | refine blk_alloc ?_ _)); refine blk_far ?_ NB311_321.out _; (with_reducible repeat (first | refine blk_drewN ?_ _ | refine blk_drew ?_ | refine blk_alloc ?_ _)); refine blk_far ?_ NB311_321.out _; (with_reducible repeat (first | refine blk_drewN ?_ _ | refine blk_drew ?_ | refine blk_alloc ?_ _)); exact BK311.out))⟩; have n3_ : Aside0 (w85.heap[gb321]? = some (.cells #[.int .i64 t318, .int .i64 t319] 31 (0, 0))) := ⟨(by rw [hw]; exact (by (with_reducible repeat (first | refine blk_drewN ?_ _ | refine blk_drew ?_ | refine blk_alloc ?_ _)); refine blk_put (cs := #[.int .i64 t318, .int .i64 0]) ?_ 1 _ rfl; (with_reducible repeat (first | refine blk_drewN ?_ _ | refine blk_drew ?_ | refine blk_alloc ?_ _)); refine blk_put (cs := #[.int .i64 0, .int .i64 0]) ?_ 0 _ rfl; (with_reducible repeat (first | refine blk_drewN ?_ _ | refine blk_drew ?_ | refine blk_alloc ?_ _)); exact BK321.out))⟩; have n4_ : Aside0 (Below w.heap.size w w85) := ⟨(by rw [hw]; exact (by repeat (first | (with_reducible first | exact HB.out | apply below_alloc | apply pw_below_drewN | apply below_drew1 | refine below_set ?_ GE311.out | refine below_set ?_ GE321.out) | exact HB.out)))⟩; clear hw; clear HO_5; clear HO_312001; clear BK311; clear BK321; clear HB; have HO_5 := n0_; have HO_312001 := n1_; have BK311 := n2_; have BK321 := n3_; have HB := n4_; clear n0_ n1_ n2_ n3_ n4_; have hcz86_0 : w85.cell? ⟨gb321, 0, none⟩ = some (.int .i64 t318) := (blk_cell BK321.out 0).trans rfl; have hcz86_1 : w85.cell? ⟨gb321, 1, none⟩ = some (.int .i64 t319) := (blk_cell BK321.out 1).trans rfl; have hfz86_0 := blk_frozen BK321.out 0; have hfz86_1 := blk_frozen BK321.out 1; obtain ⟨Ao87, co87, eo87⟩ := Kd.R_slice HO_5.out; subst eo87; have p322 : 0 ≤ ((ji64) : Int) := of_decide_eq_true (by first | (with_reducible assumption) | assumption); have q322 : (ji64) < (x5_3.length : Int) := of_decide_eq_true (by first | (with_reducible assumption) | assumption); obtain ⟨ad322, e322, hx322_0⟩ := Kd.at_bool (Kd.R_reads' HO_5.out).2.2 (ji64) p322 q322; (try rw [← Nbq67.out] at hx322_0); cases e322; replace p322 := eq_true p322; replace q322 := eq_true q322; have p77 : 0 ≤ ((ji64) : Int) := of_decide_eq_true (by first | (with_reducible assumption) | assumption); have q77 : ((ji64) : Int) < ((x5_3.length : Int) : Int) := of_decide_eq_true (by first | (with_reducible assumption) | assumption); obtain ⟨go77, co77, eo77, gb77, gl77, cl77, HG77⟩ := Kd.R_form HO_5.out (by omega); (first | cases eo77 | (injection eo77 with ea_ en_ ec_; (first | subst ea_ | (injection ea_ with ea_; subst ea_)); subst ec_; clear en_)); have GB77 := Aside0.mk gb77; have GG77 := Aside0.mk HG77; clear gb77 gl77 HG77; (first | simp only [add_plain] at hx322_0 | skip); obtain ⟨hx77_0, hf77_0⟩ := Kd.R_celln false HO_5.out ((ji64) : Int) p77 q77; replace p77 := eq_true p77; replace q77 := eq_true q77; obtain ⟨hy88_, hz88_⟩ := Kd.R_celln false HO_5.out ((ji64) : Int) (of_decide_eq_true (by first | (with_reducible assumption) | assumption)) (of_decide_eq_true (by first | (with_reducible assumption) | assumption)); have HP88 := Kd.R_putg HO_5.out ((ji64) : Int) true) | ((with_reducible refine gate_store (t := 4) (p := 90) rfl ?_); refine store_event (t := 4) (p := 90) (v := ?vo_w89) (w1 := (w85.setCell ⟨go77, ((ji64) : Int).toNat, none⟩ (.bool true))) ?hg ?ho ?hn ?hr ?_; (case ho => rfl); (case hg => rfl); (case hn => rfl); (case hr => first | (go_simp; done) | (go_simp; rfl)); intro w89 hw; have hg : w85.grownBy w89 (some go77) := (by rw [hw]; exact HP88.2); have hp_ : Kd.R Kd.bool 4 w89 w.heap.size (fun _ => True) (.slice (some ⟨go77, 0, none⟩) x5_3.length co87) y323 := (by rw [hw, Ny323.out]; exact HP88.1); clear HP88; have n0_ := Aside0.mk (hp_); have n1_ := Aside0.mk (Kd.S_over' (v := (.slice (some ⟨go77, 0, none⟩) x5_3.length co87)) (by (with_reducible repeat (first | apply Kd.S_alloc | apply Kd.S_drewN | apply Kd.S_drew)); exact HO_312001.out) (Kd.R_typed HO_5.out) (by decide) hg); have n2_ := Aside0.mk (blk_grown (g := gb311) (o := .cells #[.int .i64 t305, .slice Ao11 t306.length co11, .int .i64 t309, .int .i64 t310] 28 (0, 0)) (by (with_reducible repeat (first | refine blk_drewN ?_ _ | refine blk_drew ?_ | refine blk_alloc ?_ _)); exact BK311.out) hg (Kd.R_ne HO_5.out BK311.out (by decide))); have n3_ := Aside0.mk (blk_grown (g := gb321) (o := .cells #[.int .i64 t318, .int .i64 t319] 31 (0, 0)) (by (with_reducible repeat (first | refine blk_drewN ?_ _ | refine blk_drew ?_ | refine blk_alloc ?_ _)); exact BK321.out) hg (Kd.R_ne HO_5.out BK321.out (by decide))); have n4_ := Aside0.mk ((by rw [hw]; exact below_set (HB.out) GB77.out : Below w.heap.size w w89)); clear HO_5; clear HO_312001; clear BK311; clear BK321; clear HB; have HO_5 := n0_; have HO_312001 := n1_; have BK311 := n2_; have BK321 := n3_; have HB := n4_; clear n0_ n1_ n2_ n3_ n4_; clear hg hw hp_))
                                          go_roundg k3
                                          case measure => have := HJ5.out; have := HK2.out; have := HK3.out; omega
                                          case rel => exact ⟨(y323), (wrap64 (x7_3 + 1)), (by first | rfl | (simp; done) | (simp [*]; done)), H', ⟨by have := HJ5.out; have := HK2.out; have := HK3.out; omega⟩, ⟨by (with_reducible repeat (first | apply Kd.R_alloc | apply Kd.R_drewN | apply Kd.R_drew)); exact HO_5.out⟩, ⟨by (with_reducible repeat (first | apply Kd.S_alloc | apply Kd.S_drewN | apply Kd.S_drew)); exact HO_312001.out⟩, ⟨by (with_reducible repeat (first | refine blk_drewN ?_ _ | refine blk_drew ?_ | refine blk_alloc ?_ _)); exact BK311.out⟩, ⟨by repeat (first | (with_reducible first | exact HB.out | apply below_alloc | apply pw_below_drewN | apply below_drew1 | refine below_set ?_ GE311.out | refine below_set ?_ GE321.out) | exact HB.out)⟩⟩
                                      · rw [if_neg c66] at H
                                        exact absurd H (by simp)
                                    · rw [if_neg c65] at H
                                      exact absurd H (by simp)
                          · rw [if_neg c30] at H
                            have c30b0 : (t320 == 0) = false := beq_eq_false_iff_ne.mpr c30
                            have c30b1 : (t320 != 0) = true := bne_iff_ne.mpr c30
                            obtain rfl := Option.some.inj H
                            have hcz90_0 : wr.cell? ⟨gb311, 0, none⟩ = some (.int .i64 t305) := (blk_cell BK311.out 0).trans rfl
                            have hcz90_1 : wr.cell? ⟨gb311, 1, none⟩ = some (.slice Ao11 t306.length co11) := (blk_cell BK311.out 1).trans rfl
                            have hcz90_2 : wr.cell? ⟨gb311, 2, none⟩ = some (.int .i64 t309) := (blk_cell BK311.out 2).trans rfl
                            have hcz90_3 : wr.cell? ⟨gb311, 3, none⟩ = some (.int .i64 t310) := (blk_cell BK311.out 3).trans rfl
                            have hfz90_0 := blk_frozen BK311.out 0
                            have hfz90_1 := blk_frozen BK311.out 1
                            have hfz90_2 := blk_frozen BK311.out 2
                            have hfz90_3 := blk_frozen BK311.out 3
                            go_wp2_with (first | ((with_reducible refine gate_callee (f := 26) rfl ?_); refine goesL_ (some 41) rfl rfl Try.func26 (by kernel_rfl) rfl #[.agg #[.int .i64 t305, .slice Ao11 t306.length co11, .int .i64 t309, .int .i64 t310]] rfl (by (try simp only [List.map_toArray, List.map_cons, List.map_nil]); first | done | rfl | (simp only [List.length_drop, List.length_take]; rfl)) ?_; (with_reducible refine (layout_Width.calls t305 _ _ t306 t309 t310 t317 _ ?side1 ?side2 A27.out).mono ?_); (case side1 => repeat (first | exact (Kd.S_reads' HO_312001.out).2.2 | (with_reducible refine Kd.C_alloc ?_ _) | (with_reducible refine Kd.C_drewN ?_ _) | (with_reducible refine Kd.C_drew ?_))); (case side2 => exact (Kd.S_reads' HO_312001.out).2.1); rintro e w91 ⟨rfl, hb⟩; refine ⟨_, rfl, ?_⟩; have n0_ := Aside0.mk (Kd.R_below (by (with_reducible repeat (first | apply Kd.R_alloc | apply Kd.R_drewN | apply Kd.R_drew)); exact HO_5.out) hb); have n1_ := Aside0.mk (Kd.S_below (by (with_reducible repeat (first | apply Kd.S_alloc | apply Kd.S_drewN | apply Kd.S_drew)); exact HO_312001.out) hb); have n2_ := Aside0.mk (blk_below (g := gb311) (o := .cells #[.int .i64 t305, .slice Ao11 t306.length co11, .int .i64 t309, .int .i64 t310] 28 (0, 0)) (by (with_reducible repeat (first | refine blk_drewN ?_ _ | refine blk_drew ?_ | refine blk_alloc ?_ _)); exact BK311.out) hb); have n3_ := Aside0.mk (below_step (by repeat (first | (with_reducible first | exact HB.out | apply below_alloc | apply pw_below_drewN | apply below_drew1 | refine below_set ?_ GE311.out) | exact HB.out)) hb); clear HO_5; clear HO_312001; clear BK311; clear HB; have HO_5 := n0_; have HO_312001 := n1_; have BK311 := n2_; have HB := n3_; clear n0_ n1_ n2_ n3_; (try clear hb); (try clear hb2); (try clear hk); (try clear hi); have hcz92_0 : w91.cell? ⟨gb311, 0, none⟩ = some (.int .i64 t305) := (blk_cell BK311.out 0).trans rfl; have hcz92_1 : w91.cell? ⟨gb311, 1, none⟩ = some (.slice Ao11 t306.length co11) := (blk_cell BK311.out 1).trans rfl; have hcz92_2 : w91.cell? ⟨gb311, 2, none⟩ = some (.int .i64 t309) := (blk_cell BK311.out 2).trans rfl; have hcz92_3 : w91.cell? ⟨gb311, 3, none⟩ = some (.int .i64 t310) := (blk_cell BK311.out 3).trans rfl; have hfz92_0 := blk_frozen BK311.out 0; have hfz92_1 := blk_frozen BK311.out 1; have hfz92_2 := blk_frozen BK311.out 2; have hfz92_3 := blk_frozen BK311.out 3) | ((with_reducible refine gate_callee (f := 15) rfl ?_); refine goesL_ (some 49) rfl rfl Try.func15 (by kernel_rfl) rfl #[.agg #[.int .i64 t305, .slice Ao11 t306.length co11, .int .i64 t309, .int .i64 t310], .int .i64 x6_2, .int .i64 x7_3] rfl (by (try simp only [List.map_toArray, List.map_cons, List.map_nil]); first | done | rfl | (simp only [List.length_drop, List.length_take]; rfl)) ?_; (with_reducible refine (layout_Home.calls t305 _ _ t306 t309 t310 x6_2 x7_3 t318 t319 t320 _ ?side1 ?side2 A29.out).mono ?_); (case side1 => repeat (first | exact (Kd.S_reads' HO_312001.out).2.2 | (with_reducible refine Kd.C_alloc ?_ _) | (with_reducible refine Kd.C_drewN ?_ _) | (with_reducible refine Kd.C_drew ?_))); (case side2 => exact (Kd.S_reads' HO_312001.out).2.1); rintro e w93 ⟨rfl, hb⟩; refine ⟨_, rfl, ?_⟩; have n0_ := Aside0.mk (Kd.R_below (by (with_reducible repeat (first | apply Kd.R_alloc | apply Kd.R_drewN | apply Kd.R_drew)); exact HO_5.out) hb); have n1_ := Aside0.mk (Kd.S_below (by (with_reducible repeat (first | apply Kd.S_alloc | apply Kd.S_drewN | apply Kd.S_drew)); exact HO_312001.out) hb); have n2_ := Aside0.mk (blk_below (g := gb311) (o := .cells #[.int .i64 t305, .slice Ao11 t306.length co11, .int .i64 t309, .int .i64 t310] 28 (0, 0)) (by (with_reducible repeat (first | refine blk_drewN ?_ _ | refine blk_drew ?_ | refine blk_alloc ?_ _)); exact BK311.out) hb); have n3_ := Aside0.mk (below_step (by repeat (first | (with_reducible first | exact HB.out | apply below_alloc | apply pw_below_drewN | apply below_drew1 | refine below_set ?_ GE311.out) | exact HB.out)) hb); clear HO_5; clear HO_312001; clear BK311; clear HB; have HO_5 := n0_; have HO_312001 := n1_; have BK311 := n2_; have HB := n3_; clear n0_ n1_ n2_ n3_; (try clear hb); (try clear hb2); (try clear hk); (try clear hi)) | ((with_reducible refine gate_dst (N := 8) rfl ?_); (try (refine gate_guard (by rfl) ?_; dsimp only)); refine box_event ?hg (N := 8) ?hd (cs := #[.int .i64 0, .int .i64 0]) (t := 31) ?hr ?_; (case hd => rfl); (case hg => rfl); (case hr => first | (go_simp; done) | (go_simp; rfl)); intro gb321 hg w94 hbox hb; have n0_ := Aside0.mk (Kd.R_below (by (with_reducible repeat (first | apply Kd.R_alloc | apply Kd.R_drewN | apply Kd.R_drew)); exact HO_5.out) hb); have n1_ := Aside0.mk (Kd.S_below (by (with_reducible repeat (first | apply Kd.S_alloc | apply Kd.S_drewN | apply Kd.S_drew)); exact HO_312001.out) hb); have n2_ := Aside0.mk (blk_below (g := gb311) (o := .cells #[.int .i64 t305, .slice Ao11 t306.length co11, .int .i64 t309, .int .i64 t310] 28 (0, 0)) (by (with_reducible repeat (first | refine blk_drewN ?_ _ | refine blk_drew ?_ | refine blk_alloc ?_ _)); exact BK311.out) hb); have n3_ := Aside0.mk (below_step (by repeat (first | (with_reducible first | exact HB.out | apply below_alloc | apply pw_below_drewN | apply below_drew1 | refine below_set ?_ GE311.out) | exact HB.out)) hb); have n4_ := Aside0.mk (hbox); have n5_ := Aside0.mk ((by rw [hg]; exact (below_size (by repeat (first | (with_reducible first | exact HB.out | apply below_alloc | apply pw_below_drewN | apply below_drew1 | refine below_set ?_ GE311.out) | exact HB.out))) : w.heap.size ≤ gb321)); have n6_ := Aside0.mk ((by rw [hg]; exact (below_size (by repeat (first | (with_reducible first | exact HB.out | apply below_alloc | apply pw_below_drewN | apply below_drew1 | refine below_set ?_ GE311.out) | exact HB.out))) : w.heap.size ≤ gb321)); have n7_ := Aside0.mk ((by rw [hg]; exact Nat.ne_of_lt (blk_lt (g := gb311) (o := .cells #[.int .i64 t305, .slice Ao11 t306.length co11, .int .i64 t309, .int .i64 t310] 28 (0, 0)) (by (with_reducible repeat (first | refine blk_drewN ?_ _ | refine blk_drew ?_ | refine blk_alloc ?_ _)); exact BK311.out)) : gb311 ≠ gb321)); have n8_ := Aside0.mk ((by rw [hg]; exact Nat.ne_of_gt (blk_lt (g := gb311) (o := .cells #[.int .i64 t305, .slice Ao11 t306.length co11, .int .i64 t309, .int .i64 t310] 28 (0, 0)) (by (with_reducible repeat (first | refine blk_drewN ?_ _ | refine blk_drew ?_ | refine blk_alloc ?_ _)); exact BK311.out)) : gb321 ≠ gb311)); clear HO_5; clear HO_312001; clear BK311; clear HB; have HO_5 := n0_; have HO_312001 := n1_; have BK311 := n2_; have HB := n3_; have BK321 := n4_; have GW321 := n5_; have GE321 := n6_; have NB311_321 := n7_; have NB321_311 := n8_; clear n0_ n1_ n2_ n3_ n4_ n5_ n6_ n7_ n8_; clear hb hbox hg; have hnb95 := NB321_311.out; have hnc95 := NB311_321.out; have hcz96_0 : w94.cell? ⟨gb321, 0, none⟩ = some (.int .i64 0) := (blk_cell BK321.out 0).trans rfl; have hcz96_1 : w94.cell? ⟨gb321, 1, none⟩ = some (.int .i64 0) := (blk_cell BK321.out 1).trans rfl; have hfz96_0 := blk_frozen BK321.out 0; have hfz96_1 := blk_frozen BK321.out 1))
                            go_ret
                            exact ⟨by first | rfl | (simp [errW_none, errW_some] <;> rfl) | (simp only [← hji17]; first | rfl | (simp [errW_none, errW_some] <;> rfl)) | (simp [*, errW_none, errW_some] <;> rfl), by repeat (first | (with_reducible first | exact HB.out | apply below_alloc | apply pw_below_drewN | apply below_drew1 | refine below_set ?_ GE311.out | refine below_set ?_ GE321.out) | exact HB.out)⟩
                        · rw [if_neg c28] at H
                          have c28b0 : decide (x7_3 < t317) = false := decide_eq_false c28
                          clear c28
                          have H' := Aside0.mk H
                          clear H
                          have hcz97_0 : wr.cell? ⟨gb311, 0, none⟩ = some (.int .i64 t305) := (blk_cell BK311.out 0).trans rfl
                          have hcz97_1 : wr.cell? ⟨gb311, 1, none⟩ = some (.slice Ao11 t306.length co11) := (blk_cell BK311.out 1).trans rfl
                          have hcz97_2 : wr.cell? ⟨gb311, 2, none⟩ = some (.int .i64 t309) := (blk_cell BK311.out 2).trans rfl
                          have hcz97_3 : wr.cell? ⟨gb311, 3, none⟩ = some (.int .i64 t310) := (blk_cell BK311.out 3).trans rfl
                          have hfz97_0 := blk_frozen BK311.out 0
                          have hfz97_1 := blk_frozen BK311.out 1
                          have hfz97_2 := blk_frozen BK311.out 2
                          have hfz97_3 := blk_frozen BK311.out 3
                          go_wp2_with (first | ((with_reducible refine gate_callee (f := 26) rfl ?_); refine goesL_ (some 41) rfl rfl Try.func26 (by kernel_rfl) rfl #[.agg #[.int .i64 t305, .slice Ao11 t306.length co11, .int .i64 t309, .int .i64 t310]] rfl (by (try simp only [List.map_toArray, List.map_cons, List.map_nil]); first | done | rfl | (simp only [List.length_drop, List.length_take]; rfl)) ?_; (with_reducible refine (layout_Width.calls t305 _ _ t306 t309 t310 t317 _ ?side1 ?side2 A27.out).mono ?_); (case side1 => repeat (first | exact (Kd.S_reads' HO_312001.out).2.2 | (with_reducible refine Kd.C_alloc ?_ _) | (with_reducible refine Kd.C_drewN ?_ _) | (with_reducible refine Kd.C_drew ?_))); (case side2 => exact (Kd.S_reads' HO_312001.out).2.1); rintro e w98 ⟨rfl, hb⟩; refine ⟨_, rfl, ?_⟩; have n0_ := Aside0.mk (Kd.R_below (by (with_reducible repeat (first | apply Kd.R_alloc | apply Kd.R_drewN | apply Kd.R_drew)); exact HO_5.out) hb); have n1_ := Aside0.mk (Kd.S_below (by (with_reducible repeat (first | apply Kd.S_alloc | apply Kd.S_drewN | apply Kd.S_drew)); exact HO_312001.out) hb); have n2_ := Aside0.mk (blk_below (g := gb311) (o := .cells #[.int .i64 t305, .slice Ao11 t306.length co11, .int .i64 t309, .int .i64 t310] 28 (0, 0)) (by (with_reducible repeat (first | refine blk_drewN ?_ _ | refine blk_drew ?_ | refine blk_alloc ?_ _)); exact BK311.out) hb); have n3_ := Aside0.mk (below_step (by repeat (first | (with_reducible first | exact HB.out | apply below_alloc | apply pw_below_drewN | apply below_drew1 | refine below_set ?_ GE311.out) | exact HB.out)) hb); clear HO_5; clear HO_312001; clear BK311; clear HB; have HO_5 := n0_; have HO_312001 := n1_; have BK311 := n2_; have HB := n3_; clear n0_ n1_ n2_ n3_; (try clear hb); (try clear hb2); (try clear hk); (try clear hi)))
                          go_roundg k3
                          case measure => have := HJ5.out; have := HK2.out; have := HK3.out; omega
                          case rel => exact ⟨(x5_3), (wrap64 (x6_2 + 1)), (by first | rfl | (simp; done) | (simp [*]; done)), H', ⟨by have := HJ5.out; have := HK2.out; have := HK3.out; omega⟩, ⟨by (with_reducible repeat (first | apply Kd.R_alloc | apply Kd.R_drewN | apply Kd.R_drew)); exact HO_5.out⟩, ⟨by (with_reducible repeat (first | apply Kd.S_alloc | apply Kd.S_drewN | apply Kd.S_drew)); exact HO_312001.out⟩, ⟨by (with_reducible repeat (first | refine blk_drewN ?_ _ | refine blk_drew ?_ | refine blk_alloc ?_ _)); exact BK311.out⟩, ⟨by repeat (first | (with_reducible first | exact HB.out | apply below_alloc | apply pw_below_drewN | apply below_drew1 | refine below_set ?_ GE311.out) | exact HB.out)⟩⟩
                  · rw [if_neg c24] at H
                    have c24b0 : decide (x6_2 < t316) = false := decide_eq_false c24
                    clear c24
                    have H' := Aside0.mk H
                    clear H
                    have hcz99_0 : wr.cell? ⟨gb311, 0, none⟩ = some (.int .i64 t305) := (blk_cell BK311.out 0).trans rfl
                    have hcz99_1 : wr.cell? ⟨gb311, 1, none⟩ = some (.slice Ao11 t306.length co11) := (blk_cell BK311.out 1).trans rfl
                    have hcz99_2 : wr.cell? ⟨gb311, 2, none⟩ = some (.int .i64 t309) := (blk_cell BK311.out 2).trans rfl
                    have hcz99_3 : wr.cell? ⟨gb311, 3, none⟩ = some (.int .i64 t310) := (blk_cell BK311.out 3).trans rfl
                    have hfz99_0 := blk_frozen BK311.out 0
                    have hfz99_1 := blk_frozen BK311.out 1
                    have hfz99_2 := blk_frozen BK311.out 2
                    have hfz99_3 := blk_frozen BK311.out 3
                    go_wp2_with (first | ((with_reducible refine gate_callee (f := 25) rfl ?_); refine goesL_ (some 35) rfl rfl Try.func25 (by kernel_rfl) rfl #[.agg #[.int .i64 t305, .slice Ao11 t306.length co11, .int .i64 t309, .int .i64 t310]] rfl (by (try simp only [List.map_toArray, List.map_cons, List.map_nil]); first | done | rfl | (simp only [List.length_drop, List.length_take]; rfl)) ?_; (with_reducible refine (layout_Groups.calls t305 _ _ t306 t309 t310 t316 _ ?side1 ?side2 A23.out).mono ?_); (case side1 => repeat (first | exact (Kd.S_reads' HO_312001.out).2.2 | (with_reducible refine Kd.C_alloc ?_ _) | (with_reducible refine Kd.C_drewN ?_ _) | (with_reducible refine Kd.C_drew ?_))); (case side2 => exact (Kd.S_reads' HO_312001.out).2.1); rintro e w100 ⟨rfl, hb⟩; refine ⟨_, rfl, ?_⟩; have n0_ := Aside0.mk (Kd.R_below (by (with_reducible repeat (first | apply Kd.R_alloc | apply Kd.R_drewN | apply Kd.R_drew)); exact HO_5.out) hb); have n1_ := Aside0.mk (Kd.S_below (by (with_reducible repeat (first | apply Kd.S_alloc | apply Kd.S_drewN | apply Kd.S_drew)); exact HO_312001.out) hb); have n2_ := Aside0.mk (blk_below (g := gb311) (o := .cells #[.int .i64 t305, .slice Ao11 t306.length co11, .int .i64 t309, .int .i64 t310] 28 (0, 0)) (by (with_reducible repeat (first | refine blk_drewN ?_ _ | refine blk_drew ?_ | refine blk_alloc ?_ _)); exact BK311.out) hb); have n3_ := Aside0.mk (below_step (by repeat (first | (with_reducible first | exact HB.out | apply below_alloc | apply pw_below_drewN | apply below_drew1 | refine below_set ?_ GE311.out) | exact HB.out)) hb); clear HO_5; clear HO_312001; clear BK311; clear HB; have HO_5 := n0_; have HO_312001 := n1_; have BK311 := n2_; have HB := n3_; clear n0_ n1_ n2_ n3_; (try clear hb); (try clear hb2); (try clear hk); (try clear hi)))
                    go_loopg [11] k2 (fun kq v11 w' => ∃ (x11_3 : Int), v11 = .int .i64 x11_3 ∧ Aside0 (tegulalaw21_LayoutFull.l2 kq x5_2 x11_3 = some r) ∧ Aside0 (kq ≤ k2) ∧ Aside0 (Kd.R Kd.bool 4 w' w.heap.size (fun _ => True) v314 x5_2) ∧ Aside0 (Kd.S (Kd.slice 3 (Kd.int .i64)) 56 w' w.heap.size (fun _ => True) (.slice Ao11 t306.length co11) t306) ∧ Aside0 (w'.heap[gb311]? = some (.cells #[.int .i64 t305, (.slice Ao11 t306.length co11), .int .i64 t309, .int .i64 t310] 28 (0, 0))) ∧ Aside0 (Below w.heap.size w w'))
                    case atStart => exact ⟨(0), (by first | rfl | (simp; done) | (simp [*]; done)), H', ⟨Nat.le_refl _⟩, ⟨by (with_reducible repeat (first | apply Kd.R_alloc | apply Kd.R_drewN | apply Kd.R_drew)); exact HO_5.out⟩, ⟨by (with_reducible repeat (first | apply Kd.S_alloc | apply Kd.S_drewN | apply Kd.S_drew)); exact HO_312001.out⟩, ⟨by (with_reducible repeat (first | refine blk_drewN ?_ _ | refine blk_drew ?_ | refine blk_alloc ?_ _)); exact BK311.out⟩, ⟨by repeat (first | (with_reducible first | exact HB.out | apply below_alloc | apply pw_below_drewN | apply below_drew1 | refine below_set ?_ GE311.out) | exact HB.out)⟩⟩
                    case round =>
                      clear H'
                      try clear c1
                      try clear c2
                      try clear p2
                      try clear c3
                      try clear p3
                      try clear q3
                      try clear hx3
                      try clear c4
                      try clear c5
                      try clear c6
                      try clear p6
                      try clear q6
                      try clear c7
                      try clear p7
                      try clear q7
                      try clear hx7
                      try clear hf7
                      try clear c8
                      try clear c9
                      try clear c13
                      try clear c14
                      try clear c15
                      try clear c15b0
                      try clear c16
                      try clear c18
                      try clear c18b0
                      try clear c18b1
                      try clear c19
                      try clear c19b0
                      try clear c19b1
                      try clear c24
                      try clear c24b0
                      try clear c25
                      try clear c26
                      try clear c28
                      try clear c28b0
                      try clear c30
                      try clear c30b0
                      try clear c30b1
                      try clear c31
                      try clear c31b0
                      try clear p32
                      try clear q32
                      try clear hx32
                      try clear c37
                      try clear c39
                      try clear c39b0
                      try clear c45
                      try clear c47
                      try clear c47b0
                      try clear c53
                      try clear c55
                      try clear c55b0
                      try clear c61
                      try clear p64
                      try clear c65
                      try clear c65b0
                      try clear c66
                      try clear c66b0
                      try clear q67
                      try clear c68
                      try clear c74
                      try clear p77
                      try clear q77
                      try clear hx77
                      try clear hf77
                      try clear c83
                      try clear c95
                      try clear hcz10_0
                      try clear hcz10_1
                      try clear hcz10_2
                      try clear hcz10_3
                      try clear hcz20_0
                      try clear hcz20_1
                      try clear hcz20_2
                      try clear hcz20_3
                      try clear hcz25_0
                      try clear hcz25_1
                      try clear hcz25_2
                      try clear hcz25_3
                      try clear hcz32_0
                      try clear hcz32_1
                      try clear hcz32_2
                      try clear hcz32_3
                      try clear hcz34_0
                      try clear hcz34_1
                      try clear hcz34_2
                      try clear hcz34_3
                      try clear hcz38_0
                      try clear hcz38_1
                      try clear hcz40_0
                      try clear hcz40_1
                      try clear hcz40_2
                      try clear hcz40_3
                      try clear hcz42_0
                      try clear hcz42_1
                      try clear hcz42_2
                      try clear hcz42_3
                      try clear hcz46_0
                      try clear hcz46_1
                      try clear hcz48_0
                      try clear hcz48_1
                      try clear hcz48_2
                      try clear hcz48_3
                      try clear hcz50_0
                      try clear hcz50_1
                      try clear hcz50_2
                      try clear hcz50_3
                      try clear hcz54_0
                      try clear hcz54_1
                      try clear hcz56_0
                      try clear hcz56_1
                      try clear hcz56_2
                      try clear hcz56_3
                      try clear hcz58_0
                      try clear hcz58_1
                      try clear hcz58_2
                      try clear hcz58_3
                      try clear hcz62_0
                      try clear hcz62_1
                      try clear hcz69_0
                      try clear hcz69_1
                      try clear hcz69_2
                      try clear hcz69_3
                      try clear hcz71_0
                      try clear hcz71_1
                      try clear hcz71_2
                      try clear hcz71_3
                      try clear hcz75_0
                      try clear hcz75_1
                      try clear hcz78_0
                      try clear hcz78_1
                      try clear hcz78_2
                      try clear hcz78_3
                      try clear hcz80_0
                      try clear hcz80_1
                      try clear hcz80_2
                      try clear hcz80_3
                      try clear hcz84_0
                      try clear hcz84_1
                      try clear hcz86_0
                      try clear hcz86_1
                      try clear hcz90_0
                      try clear hcz90_1
                      try clear hcz90_2
                      try clear hcz90_3
                      try clear hcz92_0
                      try clear hcz92_1
                      try clear hcz92_2
                      try clear hcz92_3
                      try clear hcz96_0
                      try clear hcz96_1
                      try clear hcz97_0
                      try clear hcz97_1
                      try clear hcz97_2
                      try clear hcz97_3
                      try clear hcz99_0
                      try clear hcz99_1
                      try clear hcz99_2
                      try clear hcz99_3
                      try clear hfz10_0
                      try clear hfz10_1
                      try clear hfz10_2
                      try clear hfz10_3
                      try clear hfz20_0
                      try clear hfz20_1
                      try clear hfz20_2
                      try clear hfz20_3
                      try clear hfz25_0
                      try clear hfz25_1
                      try clear hfz25_2
                      try clear hfz25_3
                      try clear hfz32_0
                      try clear hfz32_1
                      try clear hfz32_2
                      try clear hfz32_3
                      try clear hfz34_0
                      try clear hfz34_1
                      try clear hfz34_2
                      try clear hfz34_3
                      try clear hfz38_0
                      try clear hfz38_1
                      try clear hfz40_0
                      try clear hfz40_1
                      try clear hfz40_2
                      try clear hfz40_3
                      try clear hfz42_0
                      try clear hfz42_1
                      try clear hfz42_2
                      try clear hfz42_3
                      try clear hfz46_0
                      try clear hfz46_1
                      try clear hfz48_0
                      try clear hfz48_1
                      try clear hfz48_2
                      try clear hfz48_3
                      try clear hfz50_0
                      try clear hfz50_1
                      try clear hfz50_2
                      try clear hfz50_3
                      try clear hfz54_0
                      try clear hfz54_1
                      try clear hfz56_0
                      try clear hfz56_1
                      try clear hfz56_2
                      try clear hfz56_3
                      try clear hfz58_0
                      try clear hfz58_1
                      try clear hfz58_2
                      try clear hfz58_3
                      try clear hfz62_0
                      try clear hfz62_1
                      try clear hfz69_0
                      try clear hfz69_1
                      try clear hfz69_2
                      try clear hfz69_3
                      try clear hfz71_0
                      try clear hfz71_1
                      try clear hfz71_2
                      try clear hfz71_3
                      try clear hfz75_0
                      try clear hfz75_1
                      try clear hfz78_0
                      try clear hfz78_1
                      try clear hfz78_2
                      try clear hfz78_3
                      try clear hfz80_0
                      try clear hfz80_1
                      try clear hfz80_2
                      try clear hfz80_3
                      try clear hfz84_0
                      try clear hfz84_1
                      try clear hfz86_0
                      try clear hfz86_1
                      try clear hfz90_0
                      try clear hfz90_1
                      try clear hfz90_2
                      try clear hfz90_3
                      try clear hfz92_0
                      try clear hfz92_1
                      try clear hfz92_2
                      try clear hfz92_3
                      try clear hfz96_0
                      try clear hfz96_1
                      try clear hfz97_0
                      try clear hfz97_1
                      try clear hfz97_2
                      try clear hfz97_3
                      try clear hfz99_0
                      try clear hfz99_1
                      try clear hfz99_2
                      try clear hfz99_3
                      try clear hx322_0
                      try clear hx77_0
                      try clear p2
                      try clear p322
                      try clear p6
                      try clear p77
                      try clear q322
                      try clear q77
                      obtain ⟨x11_3, rfl, HA, HK3, HO_5, HO_312001, BK311, HB⟩ := hrel
                      cases gk with
                      | zero => exact absurd HA.out (by simp [tegulalaw21_LayoutFull.l2])
                      | succ k3 =>
                        have H := HA.out
                        clear HA
                        simp only [tegulalaw21_LayoutFull.l2] at H
                        by_cases c101 : x11_3 < (x5_2.length : Int)
                        · rw [if_pos c101] at H
                          have c101b0 : decide (x11_3 < (x5_2.length : Int)) = true := decide_eq_true c101
                          clear c101
                          by_cases c102 : 0 ≤ x11_3
                          · rw [if_pos c102] at H
                            have c102b0 : decide (0 ≤ x11_3) = true := decide_eq_true c102
                            clear c102
                            obtain ⟨bq103, hbq103⟩ : ∃ b_ : Bool, b_ = (rdOf false x5_2 x11_3) := ⟨_, rfl⟩
                            replace H : (if bq103 = true then (tegulalaw21_LayoutFull.l2 k3 x5_2 (wrap64 (x11_3 + 1))) else (some false)) = some r := by rw [← hbq103] at H; exact H
                            have Nbq103 := Aside0.mk hbq103
                            clear hbq103
                            by_cases c104 : bq103 = true
                            · subst c104
                              have H1 : (tegulalaw21_LayoutFull.l2 k3 x5_2 (wrap64 (x11_3 + 1))) = some r := by rw [if_pos rfl] at H; exact H
                              clear H
                              have H := H1
                              clear H1
                              have H' := Aside0.mk H
                              clear H
                              obtain ⟨Ao105, co105, eo105⟩ := Kd.R_slice HO_5.out
                              subst eo105
                              have p324 : 0 ≤ (x11_3 : Int) := of_decide_eq_true (by first | (with_reducible assumption) | assumption)
                              have q324 : x11_3 < (x5_2.length : Int) := of_decide_eq_true (by first | (with_reducible assumption) | assumption)
                              obtain ⟨ad324, e324, hx324_0⟩ := Kd.at_bool (Kd.R_reads' HO_5.out).2.2 x11_3 p324 q324
                              (try rw [← Nbq103.out] at hx324_0)
                              cases e324
                              replace p324 := eq_true p324
                              replace q324 := eq_true q324
                              go_wp2
                              go_roundg k3
                              case measure => have := HJ5.out; have := HK2.out; have := HK3.out; omega
                              case rel => exact ⟨(wrap64 (x11_3 + 1)), (by first | rfl | (simp; done) | (simp [*]; done)), H', ⟨by have := HJ5.out; have := HK2.out; have := HK3.out; omega⟩, ⟨by (with_reducible repeat (first | apply Kd.R_alloc | apply Kd.R_drewN | apply Kd.R_drew)); exact HO_5.out⟩, ⟨by (with_reducible repeat (first | apply Kd.S_alloc | apply Kd.S_drewN | apply Kd.S_drew)); exact HO_312001.out⟩, ⟨by (with_reducible repeat (first | refine blk_drewN ?_ _ | refine blk_drew ?_ | refine blk_alloc ?_ _)); exact BK311.out⟩, ⟨by repeat (first | (with_reducible first | exact HB.out | apply below_alloc | apply pw_below_drewN | apply below_drew1 | refine below_set ?_ GE311.out) | exact HB.out)⟩⟩
                            · replace c104 := Bool.eq_false_iff.mpr c104
                              subst c104
                              have H1 : (some false) = some r := by rw [if_neg (show ¬ (false = true) by decide)] at H; exact H
                              clear H
                              have H := H1
                              clear H1
                              obtain rfl := Option.some.inj H
                              obtain ⟨Ao106, co106, eo106⟩ := Kd.R_slice HO_5.out
                              subst eo106
                              have p324 : 0 ≤ (x11_3 : Int) := of_decide_eq_true (by first | (with_reducible assumption) | assumption)
                              have q324 : x11_3 < (x5_2.length : Int) := of_decide_eq_true (by first | (with_reducible assumption) | assumption)
                              obtain ⟨ad324, e324, hx324_0⟩ := Kd.at_bool (Kd.R_reads' HO_5.out).2.2 x11_3 p324 q324
                              (try rw [← Nbq103.out] at hx324_0)
                              cases e324
                              replace p324 := eq_true p324
                              replace q324 := eq_true q324
                              go_wp2
                              go_ret
                              exact ⟨by first | rfl | (simp [errW_none, errW_some] <;> rfl) | (simp only [← hji17]; first | rfl | (simp [errW_none, errW_some] <;> rfl)) | (simp [*, errW_none, errW_some] <;> rfl), by repeat (first | (with_reducible first | exact HB.out | apply below_alloc | apply pw_below_drewN | apply below_drew1 | refine below_set ?_ GE311.out) | exact HB.out)⟩
                          · rw [if_neg c102] at H
                            exact absurd H (by simp)
                        · rw [if_neg c101] at H
                          have c101b0 : decide (x11_3 < (x5_2.length : Int)) = false := decide_eq_false c101
                          clear c101
                          obtain rfl := Option.some.inj H
                          obtain ⟨Ao107, co107, eo107⟩ := Kd.R_slice HO_5.out
                          subst eo107
                          go_wp2
                          go_ret
                          exact ⟨by first | rfl | (simp [errW_none, errW_some] <;> rfl) | (simp only [← hji17]; first | rfl | (simp [errW_none, errW_some] <;> rfl)) | (simp [*, errW_none, errW_some] <;> rfl), by repeat (first | (with_reducible first | exact HB.out | apply below_alloc | apply pw_below_drewN | apply below_drew1 | refine below_set ?_ GE311.out) | exact HB.out)⟩
            · rw [if_neg c19] at H
              exact absurd H (by simp)
          · rw [if_neg c18] at H
            exact absurd H (by simp)
  · replace c3 := Bool.eq_false_iff.mpr c3
    subst c3
    have H1 : (some false) = some r := by rw [if_neg (show ¬ (false = true) by decide)] at H; exact H
    clear H
    have H := H1
    clear H1
    obtain rfl := Option.some.inj H
    go_enter Try.func6, Try.ntmps6
    go_wp2_with (first | ((with_reducible refine gate_callee (f := 13) rfl ?_); refine goesL_ (some 12) rfl rfl Try.func13 (by kernel_rfl) rfl #[] rfl (by (try simp only [List.map_toArray, List.map_cons, List.map_nil]); first | done | rfl | (simp only [List.length_drop, List.length_take]; rfl)) ?_; (with_reducible refine (tegulalaw21_awake.calls  false _ A2.out).mono ?_); rintro e w108 ⟨rfl, hb⟩; refine ⟨_, rfl, ?_⟩; have n0_ := Aside0.mk (below_step (by repeat (first | (with_reducible first | exact HB.out | apply below_alloc | apply pw_below_drewN | apply below_drew1) | exact HB.out)) hb); clear HB; have HB := n0_; clear n0_; (try clear hb); (try clear hb2); (try clear hk); (try clear hi)))
    go_ret
    exact ⟨by first | rfl | (simp [errW_none, errW_some] <;> rfl) | (simp [*, errW_none, errW_some] <;> rfl), by repeat (first | (with_reducible first | exact HB.out | apply below_alloc | apply pw_below_drewN | apply below_drew1) | exact HB.out)⟩

/-- THE ONE PURE STATEMENT of tegulalaw21_LayoutFull: yours. -/
def tegulalaw21_LayoutFull.Pure : Prop := ∀ (a0 : Int), (Lit.int .u16 a0).wf = true → ∃ k, tegulalaw21_LayoutFull.f k a0 = some true
theorem tegulalaw21_LayoutFull.walk (P : tegulalaw21_LayoutFull.Pure) (a0 : Int) (w : World) (w0 : (Lit.int .u16 a0).wf = true) :
    Calls Try.prog 6 #[.int .u16 a0] w fun e w' => e = .returned (.bool true) ∧ Below w.heap.size w w' := by
  obtain ⟨k, h⟩ := P a0 w0
  refine (tegulalaw21_LayoutFull.calls k a0 true w h).mono ?_
  rintro e w' ⟨rfl, hd⟩
  exact ⟨rfl, hd⟩

end Go.Proofs.Ytebnladkogkpfaa.Q
