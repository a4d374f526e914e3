-- Written by a program of this session (wip/tools/drv.py) for this claim: what the Go functions do, as Lean functions, and the walks.
import Derived.Test.YtebnladkogkpfaaQ0
import Derived.Test.YtebnladkogkpfaaQ3
import Derived.Test.YtebnladkogkpfaaQ15
import Derived.Test.YtebnladkogkpfaaQ19
import Derived.Test.YtebnladkogkpfaaQ32
namespace Go.Proofs.Ytebnladkogkpfaa.Q
open Go.RowKit Go.Proofs.YtebnladkogkpfaaW.PrintWords Go.Proofs.YtebnladkogkpfaaW.PrintLast Go.Proofs.YtebnladkogkpfaaW.PrintMore
attribute [local go_sem] max2_int min2_int max_two min_two max_three min_three max_four min_four   -- for this text's walks alone
set_option linter.unusedVariables false
set_option linter.unusedSimpArgs false

/-! ### tegulalaw21_LayoutBalance: function 9 -/
mutual
def tegulalaw21_LayoutBalance.j0 : Nat → Int → Int → Int → Int → List (S52) → List (S52) → Bool → Int → List (List Int) → Int → Int → Option (Bool)
  | 0, _, _, _, _, _, _, _, _, _, _, _ => none
  | k + 1, x1, x2, x8, x9, x11, x13, x78, x384000, x384001, x384002, x384003 => if x78 = true then (some false) else (tegulalaw21_LayoutBalance.l0 k x1 x2 x8 x9 x11 x13 0 0 x384000 x384001 x384002 x384003)
def tegulalaw21_LayoutBalance.l0 : Nat → Int → Int → Int → Int → List (S52) → List (S52) → Int → Int → Int → List (List Int) → Int → Int → Option (Bool)
  | 0, _, _, _, _, _, _, _, _, _, _, _, _ => none
  | k + 1, x1, x2, x8, x9, x11, x13, x15, x16, x384000, x384001, x384002, x384003 => if x16 < (x11.length : Int) then (tegulalaw21_LayoutBalance.l1 k x1 x2 x8 x9 x11 x13 x15 x16 0 x384000 x384001 x384002 x384003) else (if x384000 = 0 then (none) else (if (Int.tmod (wrap64 (x1)) x384000) = (Int.tmod (wrap64 (x2)) x384000) then (some (x15 == (wrap64 (x384002 * x8)))) else (some (x15 == (wrap64 (x384002 * x9))))))
def tegulalaw21_LayoutBalance.l1 : Nat → Int → Int → Int → Int → List (S52) → List (S52) → Int → Int → Int → Int → List (List Int) → Int → Int → Option (Bool)
  | 0, _, _, _, _, _, _, _, _, _, _, _, _, _ => none
  | k + 1, x1, x2, x8, x9, x11, x13, x15, x16, x17, x384000, x384001, x384002, x384003 => if x17 < (x13.length : Int) then (if 0 ≤ x16 then (if x16 < (x11.length : Int) then (if 0 ≤ x17 then (if ((rd_T52 x11 x16).f0) = ((rd_T52 x13 x17).f0) then (tegulalaw21_LayoutBalance.l1 k x1 x2 x8 x9 x11 x13 (wrap64 (x15 + 1)) x16 (wrap64 (x17 + 1)) x384000 x384001 x384002 x384003) else (tegulalaw21_LayoutBalance.l1 k x1 x2 x8 x9 x11 x13 x15 x16 (wrap64 (x17 + 1)) x384000 x384001 x384002 x384003)) else (none)) else (none)) else (none)) else (tegulalaw21_LayoutBalance.l0 k x1 x2 x8 x9 x11 x13 x15 (wrap64 (x16 + 1)) x384000 x384001 x384002 x384003)
end
def tegulalaw21_LayoutBalance.f (k : Nat) (a0 : Int) (a1 : Int) (a2 : Int) : Option (Bool) := (tegulalaw21_awake.f).bind fun t376 => (if t376 = true then ((tegularef21_Small.f k a0).bind fun bt377 => ((design_Check.f bt377.1 bt377.2.1).bind fun bt384 => (if bt377.1 = 0 then (none) else ((layout_OnDisk.f bt377.1 bt377.2.1 bt377.2.2.1 bt377.2.2.2 (Int.tmod (wrap64 (a1)) bt377.1)).bind fun bt387 => ((layout_OnDisk.f bt377.1 bt377.2.1 bt377.2.2.1 bt377.2.2.2 (Int.tmod (wrap64 (a2)) bt377.1)).bind fun bt391 => (if bt384.2.2 = 0 then (if bt387.2 = 0 then (if bt391.2 = 0 then (if (bt387.1.length : Int) = (wrap64 (bt377.2.2.1 * bt384.1)) then (tegulalaw21_LayoutBalance.j0 k a1 a2 bt384.1 bt384.2.1 bt387.1 bt391.1 ((bt391.1.length : Int) != (wrap64 (bt377.2.2.1 * bt384.1))) bt377.1 bt377.2.1 bt377.2.2.1 bt377.2.2.2) else (tegulalaw21_LayoutBalance.j0 k a1 a2 bt384.1 bt384.2.1 bt387.1 bt391.1 true bt377.1 bt377.2.1 bt377.2.2.1 bt377.2.2.2)) else (tegulalaw21_LayoutBalance.j0 k a1 a2 bt384.1 bt384.2.1 bt387.1 bt391.1 true bt377.1 bt377.2.1 bt377.2.2.1 bt377.2.2.2)) else (tegulalaw21_LayoutBalance.j0 k a1 a2 bt384.1 bt384.2.1 bt387.1 bt391.1 true bt377.1 bt377.2.1 bt377.2.2.1 bt377.2.2.2)) else (tegulalaw21_LayoutBalance.j0 k a1 a2 bt384.1 bt384.2.1 bt387.1 bt391.1 true bt377.1 bt377.2.1 bt377.2.2.1 bt377.2.2.2))))))) else (some false))
theorem tegulalaw21_LayoutBalance.mono_l : ∀ k, (∀ y0 y1 y2 y3 y4 y5 y6 y7 y8 y9 y10, LeO (tegulalaw21_LayoutBalance.j0 k y0 y1 y2 y3 y4 y5 y6 y7 y8 y9 y10) (tegulalaw21_LayoutBalance.j0 (k + 1) y0 y1 y2 y3 y4 y5 y6 y7 y8 y9 y10)) ∧ (∀ y0 y1 y2 y3 y4 y5 y6 y7 y8 y9 y10 y11, LeO (tegulalaw21_LayoutBalance.l0 k y0 y1 y2 y3 y4 y5 y6 y7 y8 y9 y10 y11) (tegulalaw21_LayoutBalance.l0 (k + 1) y0 y1 y2 y3 y4 y5 y6 y7 y8 y9 y10 y11)) ∧ (∀ y0 y1 y2 y3 y4 y5 y6 y7 y8 y9 y10 y11 y12, LeO (tegulalaw21_LayoutBalance.l1 k y0 y1 y2 y3 y4 y5 y6 y7 y8 y9 y10 y11 y12) (tegulalaw21_LayoutBalance.l1 (k + 1) y0 y1 y2 y3 y4 y5 y6 y7 y8 y9 y10 y11 y12))
  | 0 => ⟨fun _ _ _ _ _ _ _ _ _ _ _ r h => by simp [tegulalaw21_LayoutBalance.j0] at h, fun _ _ _ _ _ _ _ _ _ _ _ _ r h => by simp [tegulalaw21_LayoutBalance.l0] at h, fun _ _ _ _ _ _ _ _ _ _ _ _ _ r h => by simp [tegulalaw21_LayoutBalance.l1] at h⟩
  | k + 1 => by
    obtain ⟨ih0, ih1, ih2⟩ := tegulalaw21_LayoutBalance.mono_l k
    refine ⟨?_, ?_, ?_⟩
    · intro y0 y1 y2 y3 y4 y5 y6 y7 y8 y9 y10
      unfold tegulalaw21_LayoutBalance.j0
      repeat' first
      | (with_reducible exact ih0 _ _ _ _ _ _ _ _ _ _ _)
      | (with_reducible exact ih1 _ _ _ _ _ _ _ _ _ _ _ _)
      | (with_reducible exact ih2 _ _ _ _ _ _ _ _ _ _ _ _ _)
      | (with_reducible exact tegularef21_Small.mono _ _)
      | (with_reducible exact LeO.refl _)
      | (with_reducible exact LeO.none _)
      | (with_reducible refine LeO.ite ?_ ?_)
      | (with_reducible refine LeO.bind ?_ (fun _ => ?_))
      | exact ih0 _ _ _ _ _ _ _ _ _ _ _
      | exact ih1 _ _ _ _ _ _ _ _ _ _ _ _
      | exact ih2 _ _ _ _ _ _ _ _ _ _ _ _ _
      | exact tegularef21_Small.mono _ _
      | exact LeO.none _
      | refine LeO.ite ?_ ?_
      | refine LeO.bind ?_ (fun _ => ?_)
    · intro y0 y1 y2 y3 y4 y5 y6 y7 y8 y9 y10 y11
      unfold tegulalaw21_LayoutBalance.l0
      repeat' first
      | (with_reducible exact ih0 _ _ _ _ _ _ _ _ _ _ _)
      | (with_reducible exact ih1 _ _ _ _ _ _ _ _ _ _ _ _)
      | (with_reducible exact ih2 _ _ _ _ _ _ _ _ _ _ _ _ _)
      | (with_reducible exact tegularef21_Small.mono _ _)
      | (with_reducible exact LeO.refl _)
      | (with_reducible exact LeO.none _)
      | (with_reducible refine LeO.ite ?_ ?_)
      | (with_reducible refine LeO.bind ?_ (fun _ => ?_))
      | exact ih0 _ _ _ _ _ _ _ _ _ _ _
      | exact ih1 _ _ _ _ _ _ _ _ _ _ _ _
      | exact ih2 _ _ _ _ _ _ _ _ _ _ _ _ _
      | exact tegularef21_Small.mono _ _
      | exact LeO.none _
      | refine LeO.ite ?_ ?_
      | refine LeO.bind ?_ (fun _ => ?_)
    · intro y0 y1 y2 y3 y4 y5 y6 y7 y8 y9 y10 y11 y12
      unfold tegulalaw21_LayoutBalance.l1
      repeat' first
      | (with_reducible exact ih0 _ _ _ _ _ _ _ _ _ _ _)
      | (with_reducible exact ih1 _ _ _ _ _ _ _ _ _ _ _ _)
      | (with_reducible exact ih2 _ _ _ _ _ _ _ _ _ _ _ _ _)
      | (with_reducible exact tegularef21_Small.mono _ _)
      | (with_reducible exact LeO.refl _)
      | (with_reducible exact LeO.none _)
      | (with_reducible refine LeO.ite ?_ ?_)
      | (with_reducible refine LeO.bind ?_ (fun _ => ?_))
      | exact ih0 _ _ _ _ _ _ _ _ _ _ _
      | exact ih1 _ _ _ _ _ _ _ _ _ _ _ _
      | exact ih2 _ _ _ _ _ _ _ _ _ _ _ _ _
      | exact tegularef21_Small.mono _ _
      | exact LeO.none _
      | refine LeO.ite ?_ ?_
      | refine LeO.bind ?_ (fun _ => ?_)
theorem tegulalaw21_LayoutBalance.mono : ∀ a0 a1 a2 k, LeO (tegulalaw21_LayoutBalance.f k a0 a1 a2) (tegulalaw21_LayoutBalance.f (k + 1) a0 a1 a2) := by
  intro a0 a1 a2 k
  obtain ⟨ih0, ih1, ih2⟩ := tegulalaw21_LayoutBalance.mono_l k
  unfold tegulalaw21_LayoutBalance.f
  repeat' first
      | (with_reducible exact ih0 _ _ _ _ _ _ _ _ _ _ _)
      | (with_reducible exact ih1 _ _ _ _ _ _ _ _ _ _ _ _)
      | (with_reducible exact ih2 _ _ _ _ _ _ _ _ _ _ _ _ _)
      | (with_reducible exact tegularef21_Small.mono _ _)
      | (with_reducible exact LeO.refl _)
      | (with_reducible exact LeO.none _)
      | (with_reducible refine LeO.ite ?_ ?_)
      | (with_reducible refine LeO.bind ?_ (fun _ => ?_))
      | exact ih0 _ _ _ _ _ _ _ _ _ _ _
      | exact ih1 _ _ _ _ _ _ _ _ _ _ _ _
      | exact ih2 _ _ _ _ _ _ _ _ _ _ _ _ _
      | exact tegularef21_Small.mono _ _
      | exact LeO.none _
      | refine LeO.ite ?_ ?_
      | refine LeO.bind ?_ (fun _ => ?_)
def tegulalaw21_LayoutBalance.T5 : Bool × List (List Nat × List Nat) := (true, [([], []), ([], []), ([1], [1]), ([], []), ([3], [3]), ([4], [4]), ([2, 5], [2, 5]), ([0, 6], [0, 6]), ([7], [7]), ([8], [8]), ([8], [8]), ([9, 7, 0, 1, 2, 3, 4, 5, 6, 7, 8, 9], [9]), ([10, 11, 0, 1, 2, 3, 4, 5, 6, 7, 8, 9, 10, 11], [10])])
def tegulalaw21_LayoutBalance.B5 : List Nat := [0, 0, 2, 0, 8, 24, 62, 127, 255, 511, 511, 1023, 4095]
theorem tegulalaw21_LayoutBalance.tab5 : rtab .any (opsOf Try.f9 5) = tegulalaw21_LayoutBalance.T5 := by kernel_rfl
theorem tegulalaw21_LayoutBalance.bits5 : waitsOk tegulalaw21_LayoutBalance.T5.2 tegulalaw21_LayoutBalance.B5 = true := by kernel_rfl
def tegulalaw21_LayoutBalance.T6 : Bool × List (List Nat × List Nat) := (true, [([], []), ([], []), ([1], [1]), ([], []), ([3], [3]), ([4], [4]), ([2, 5], [2, 5]), ([0, 6], [0, 6]), ([7], [7]), ([8], [8]), ([8], [8]), ([9, 7, 0, 1, 2, 3, 4, 5, 6, 7, 8, 9], [9]), ([10, 11, 0, 1, 2, 3, 4, 5, 6, 7, 8, 9, 10, 11], [10])])
def tegulalaw21_LayoutBalance.B6 : List Nat := [0, 0, 2, 0, 8, 24, 62, 127, 255, 511, 511, 1023, 4095]
theorem tegulalaw21_LayoutBalance.tab6 : rtab .any (opsOf Try.f9 6) = tegulalaw21_LayoutBalance.T6 := by kernel_rfl
theorem tegulalaw21_LayoutBalance.bits6 : waitsOk tegulalaw21_LayoutBalance.T6.2 tegulalaw21_LayoutBalance.B6 = true := by kernel_rfl
def tegulalaw21_LayoutBalance.T16 : Bool × List (List Nat × List Nat) := (true, [([], []), ([], []), ([0, 1], [0, 1]), ([2], [2]), ([3], [3]), ([], []), ([], []), ([5, 6], [5, 6]), ([7], [7]), ([8], [8]), ([4, 9], [4, 9])])
def tegulalaw21_LayoutBalance.B16 : List Nat := [0, 0, 3, 7, 15, 0, 0, 96, 224, 480, 1023]
theorem tegulalaw21_LayoutBalance.tab16 : rtab .any (opsOf Try.f9 16) = tegulalaw21_LayoutBalance.T16 := by kernel_rfl
theorem tegulalaw21_LayoutBalance.bits16 : waitsOk tegulalaw21_LayoutBalance.T16.2 tegulalaw21_LayoutBalance.B16 = true := by kernel_rfl
def tegulalaw21_LayoutBalance.T18 : Bool × List (List Nat × List Nat) := (true, [([], []), ([0], [0]), ([], []), ([2], [2]), ([3], [3]), ([1, 4], [1, 4]), ([], []), ([6], [6]), ([], []), ([8], [8]), ([9], [9]), ([7, 10], [7, 10]), ([5, 11], [5, 11])])
def tegulalaw21_LayoutBalance.B18 : List Nat := [0, 1, 0, 4, 12, 31, 0, 64, 0, 256, 768, 1984, 4095]
theorem tegulalaw21_LayoutBalance.tab18 : rtab .any (opsOf Try.f9 18) = tegulalaw21_LayoutBalance.T18 := by kernel_rfl
theorem tegulalaw21_LayoutBalance.bits18 : waitsOk tegulalaw21_LayoutBalance.T18.2 tegulalaw21_LayoutBalance.B18 = true := by kernel_rfl
set_option maxHeartbeats 8000000 in
set_option maxRecDepth 100000 in
theorem tegulalaw21_LayoutBalance.calls (k : Nat) (a0 : Int) (a1 : Int) (a2 : Int) (r : Bool) (w : World) (h : tegulalaw21_LayoutBalance.f k a0 a1 a2 = some r) :
    Calls Try.prog 9 #[.int .u16 a0, .int .u8 a1, .int .u8 a2] w fun e w' => e = .returned (.bool r) ∧ Below w.heap.size w w' := by
  have hu28 := Try.underlying28
  have hu26 := Try.underlying26
  have HB := Aside0.mk (Below.refl w.heap.size w)
  have H : ((tegulalaw21_awake.f).bind fun t376 => (if t376 = true then ((tegularef21_Small.f k a0).bind fun bt377 => ((design_Check.f bt377.1 bt377.2.1).bind fun bt384 => (if bt377.1 = 0 then (none) else ((layout_OnDisk.f bt377.1 bt377.2.1 bt377.2.2.1 bt377.2.2.2 (Int.tmod (wrap64 (a1)) bt377.1)).bind fun bt387 => ((layout_OnDisk.f bt377.1 bt377.2.1 bt377.2.2.1 bt377.2.2.2 (Int.tmod (wrap64 (a2)) bt377.1)).bind fun bt391 => (if bt384.2.2 = 0 then (if bt387.2 = 0 then (if bt391.2 = 0 then (if (bt387.1.length : Int) = (wrap64 (bt377.2.2.1 * bt384.1)) then (tegulalaw21_LayoutBalance.j0 k a1 a2 bt384.1 bt384.2.1 bt387.1 bt391.1 ((bt391.1.length : Int) != (wrap64 (bt377.2.2.1 * bt384.1))) bt377.1 bt377.2.1 bt377.2.2.1 bt377.2.2.2) else (tegulalaw21_LayoutBalance.j0 k a1 a2 bt384.1 bt384.2.1 bt387.1 bt391.1 true bt377.1 bt377.2.1 bt377.2.2.1 bt377.2.2.2)) else (tegulalaw21_LayoutBalance.j0 k a1 a2 bt384.1 bt384.2.1 bt387.1 bt391.1 true bt377.1 bt377.2.1 bt377.2.2.1 bt377.2.2.2)) else (tegulalaw21_LayoutBalance.j0 k a1 a2 bt384.1 bt384.2.1 bt387.1 bt391.1 true bt377.1 bt377.2.1 bt377.2.2.1 bt377.2.2.2)) else (tegulalaw21_LayoutBalance.j0 k a1 a2 bt384.1 bt384.2.1 bt387.1 bt391.1 true bt377.1 bt377.2.1 bt377.2.2.1 bt377.2.2.2))))))) else (some false))) = some r := h
  clear h
  replace H := Option.bind_eq_some_iff.mp H
  obtain ⟨t376, A40, H⟩ := H
  replace H : (if t376 = true then ((tegularef21_Small.f k a0).bind fun bt377 => ((design_Check.f bt377.1 bt377.2.1).bind fun bt384 => (if bt377.1 = 0 then (none) else ((layout_OnDisk.f bt377.1 bt377.2.1 bt377.2.2.1 bt377.2.2.2 (Int.tmod (wrap64 (a1)) bt377.1)).bind fun bt387 => ((layout_OnDisk.f bt377.1 bt377.2.1 bt377.2.2.1 bt377.2.2.2 (Int.tmod (wrap64 (a2)) bt377.1)).bind fun bt391 => (if bt384.2.2 = 0 then (if bt387.2 = 0 then (if bt391.2 = 0 then (if (bt387.1.length : Int) = (wrap64 (bt377.2.2.1 * bt384.1)) then (tegulalaw21_LayoutBalance.j0 k a1 a2 bt384.1 bt384.2.1 bt387.1 bt391.1 ((bt391.1.length : Int) != (wrap64 (bt377.2.2.1 * bt384.1))) bt377.1 bt377.2.1 bt377.2.2.1 bt377.2.2.2) else (tegulalaw21_LayoutBalance.j0 k a1 a2 bt384.1 bt384.2.1 bt387.1 bt391.1 true bt377.1 bt377.2.1 bt377.2.2.1 bt377.2.2.2)) else (tegulalaw21_LayoutBalance.j0 k a1 a2 bt384.1 bt384.2.1 bt387.1 bt391.1 true bt377.1 bt377.2.1 bt377.2.2.1 bt377.2.2.2)) else (tegulalaw21_LayoutBalance.j0 k a1 a2 bt384.1 bt384.2.1 bt387.1 bt391.1 true bt377.1 bt377.2.1 bt377.2.2.1 bt377.2.2.2)) else (tegulalaw21_LayoutBalance.j0 k a1 a2 bt384.1 bt384.2.1 bt387.1 bt391.1 true bt377.1 bt377.2.1 bt377.2.2.1 bt377.2.2.2))))))) else (some false)) = some r := H
  have A4 := Aside0.mk A40
  clear A40
  by_cases c5 : t376 = true
  · subst c5
    have H1 : ((tegularef21_Small.f k a0).bind fun bt377 => ((design_Check.f bt377.1 bt377.2.1).bind fun bt384 => (if bt377.1 = 0 then (none) else ((layout_OnDisk.f bt377.1 bt377.2.1 bt377.2.2.1 bt377.2.2.2 (Int.tmod (wrap64 (a1)) bt377.1)).bind fun bt387 => ((layout_OnDisk.f bt377.1 bt377.2.1 bt377.2.2.1 bt377.2.2.2 (Int.tmod (wrap64 (a2)) bt377.1)).bind fun bt391 => (if bt384.2.2 = 0 then (if bt387.2 = 0 then (if bt391.2 = 0 then (if (bt387.1.length : Int) = (wrap64 (bt377.2.2.1 * bt384.1)) then (tegulalaw21_LayoutBalance.j0 k a1 a2 bt384.1 bt384.2.1 bt387.1 bt391.1 ((bt391.1.length : Int) != (wrap64 (bt377.2.2.1 * bt384.1))) bt377.1 bt377.2.1 bt377.2.2.1 bt377.2.2.2) else (tegulalaw21_LayoutBalance.j0 k a1 a2 bt384.1 bt384.2.1 bt387.1 bt391.1 true bt377.1 bt377.2.1 bt377.2.2.1 bt377.2.2.2)) else (tegulalaw21_LayoutBalance.j0 k a1 a2 bt384.1 bt384.2.1 bt387.1 bt391.1 true bt377.1 bt377.2.1 bt377.2.2.1 bt377.2.2.2)) else (tegulalaw21_LayoutBalance.j0 k a1 a2 bt384.1 bt384.2.1 bt387.1 bt391.1 true bt377.1 bt377.2.1 bt377.2.2.1 bt377.2.2.2)) else (tegulalaw21_LayoutBalance.j0 k a1 a2 bt384.1 bt384.2.1 bt387.1 bt391.1 true bt377.1 bt377.2.1 bt377.2.2.1 bt377.2.2.2))))))) = some r := by rw [if_pos rfl] at H; exact H
    clear H
    have H := H1
    clear H1
    replace H := Option.bind_eq_some_iff.mp H
    obtain ⟨⟨t377, t378, t381, t382⟩, A60, H⟩ := H
    replace H : ((design_Check.f t377 t378).bind fun bt384 => (if t377 = 0 then (none) else ((layout_OnDisk.f t377 t378 t381 t382 (Int.tmod (wrap64 (a1)) t377)).bind fun bt387 => ((layout_OnDisk.f t377 t378 t381 t382 (Int.tmod (wrap64 (a2)) t377)).bind fun bt391 => (if bt384.2.2 = 0 then (if bt387.2 = 0 then (if bt391.2 = 0 then (if (bt387.1.length : Int) = (wrap64 (t381 * bt384.1)) then (tegulalaw21_LayoutBalance.j0 k a1 a2 bt384.1 bt384.2.1 bt387.1 bt391.1 ((bt391.1.length : Int) != (wrap64 (t381 * bt384.1))) t377 t378 t381 t382) else (tegulalaw21_LayoutBalance.j0 k a1 a2 bt384.1 bt384.2.1 bt387.1 bt391.1 true t377 t378 t381 t382)) else (tegulalaw21_LayoutBalance.j0 k a1 a2 bt384.1 bt384.2.1 bt387.1 bt391.1 true t377 t378 t381 t382)) else (tegulalaw21_LayoutBalance.j0 k a1 a2 bt384.1 bt384.2.1 bt387.1 bt391.1 true t377 t378 t381 t382)) else (tegulalaw21_LayoutBalance.j0 k a1 a2 bt384.1 bt384.2.1 bt387.1 bt391.1 true t377 t378 t381 t382)))))) = some r := H
    have A6 := Aside0.mk A60
    clear A60
    replace H := Option.bind_eq_some_iff.mp H
    obtain ⟨⟨t384, t385, t386⟩, A70, H⟩ := H
    replace H : (if t377 = 0 then (none) else ((layout_OnDisk.f t377 t378 t381 t382 (Int.tmod (wrap64 (a1)) t377)).bind fun bt387 => ((layout_OnDisk.f t377 t378 t381 t382 (Int.tmod (wrap64 (a2)) t377)).bind fun bt391 => (if t386 = 0 then (if bt387.2 = 0 then (if bt391.2 = 0 then (if (bt387.1.length : Int) = (wrap64 (t381 * t384)) then (tegulalaw21_LayoutBalance.j0 k a1 a2 t384 t385 bt387.1 bt391.1 ((bt391.1.length : Int) != (wrap64 (t381 * t384))) t377 t378 t381 t382) else (tegulalaw21_LayoutBalance.j0 k a1 a2 t384 t385 bt387.1 bt391.1 true t377 t378 t381 t382)) else (tegulalaw21_LayoutBalance.j0 k a1 a2 t384 t385 bt387.1 bt391.1 true t377 t378 t381 t382)) else (tegulalaw21_LayoutBalance.j0 k a1 a2 t384 t385 bt387.1 bt391.1 true t377 t378 t381 t382)) else (tegulalaw21_LayoutBalance.j0 k a1 a2 t384 t385 bt387.1 bt391.1 true t377 t378 t381 t382))))) = some r := H
    have A7 := Aside0.mk A70
    clear A70
    by_cases c8 : t377 = 0
    · rw [if_pos c8] at H
      exact absurd H (by simp)
    · rw [if_neg c8] at H
      have c8b0 : (t377 == 0) = false := beq_eq_false_iff_ne.mpr c8
      have c8b1 : (t377 != 0) = true := bne_iff_ne.mpr c8
      replace H := Option.bind_eq_some_iff.mp H
      obtain ⟨⟨t387, t390⟩, A90, H⟩ := H
      replace H : ((layout_OnDisk.f t377 t378 t381 t382 (Int.tmod (wrap64 (a2)) t377)).bind fun bt391 => (if t386 = 0 then (if t390 = 0 then (if bt391.2 = 0 then (if (t387.length : Int) = (wrap64 (t381 * t384)) then (tegulalaw21_LayoutBalance.j0 k a1 a2 t384 t385 t387 bt391.1 ((bt391.1.length : Int) != (wrap64 (t381 * t384))) t377 t378 t381 t382) else (tegulalaw21_LayoutBalance.j0 k a1 a2 t384 t385 t387 bt391.1 true t377 t378 t381 t382)) else (tegulalaw21_LayoutBalance.j0 k a1 a2 t384 t385 t387 bt391.1 true t377 t378 t381 t382)) else (tegulalaw21_LayoutBalance.j0 k a1 a2 t384 t385 t387 bt391.1 true t377 t378 t381 t382)) else (tegulalaw21_LayoutBalance.j0 k a1 a2 t384 t385 t387 bt391.1 true t377 t378 t381 t382))) = some r := H
      have A9 := Aside0.mk A90
      clear A90
      replace H := Option.bind_eq_some_iff.mp H
      obtain ⟨⟨t391, t394⟩, A100, H⟩ := H
      replace H : (if t386 = 0 then (if t390 = 0 then (if t394 = 0 then (if (t387.length : Int) = (wrap64 (t381 * t384)) then (tegulalaw21_LayoutBalance.j0 k a1 a2 t384 t385 t387 t391 ((t391.length : Int) != (wrap64 (t381 * t384))) t377 t378 t381 t382) else (tegulalaw21_LayoutBalance.j0 k a1 a2 t384 t385 t387 t391 true t377 t378 t381 t382)) else (tegulalaw21_LayoutBalance.j0 k a1 a2 t384 t385 t387 t391 true t377 t378 t381 t382)) else (tegulalaw21_LayoutBalance.j0 k a1 a2 t384 t385 t387 t391 true t377 t378 t381 t382)) else (tegulalaw21_LayoutBalance.j0 k a1 a2 t384 t385 t387 t391 true t377 t378 t381 t382)) = some r := H
      have A10 := Aside0.mk A100
      clear A100
      have HC11 := Aside0.mk H
      clear H
      go_enter Try.func9, Try.ntmps9
      try go_wp2_with (first | ((with_reducible refine gate_callee (f := 13) rfl ?_); refine goesL_ (some 18) rfl rfl Try.func13 (by kernel_rfl) rfl #[] rfl (by (try simp only [List.map_toArray, List.map_cons, List.map_nil]); first | done | rfl | (simp only [List.length_drop, List.length_take]; rfl)) ?_; (with_reducible refine (tegulalaw21_awake.calls  true _ A4.out).mono ?_); rintro e w12 ⟨rfl, hb⟩; refine ⟨_, rfl, ?_⟩; have n0_ := Aside0.mk (below_step (by repeat (first | (with_reducible first | exact HB.out | apply below_alloc | apply pw_below_drewN | apply below_drew1) | exact HB.out)) hb); clear HB; have HB := n0_; clear n0_; (try clear hb); (try clear hb2); (try clear hk); (try clear hi)) | ((with_reducible refine gate_callee (f := 14) rfl ?_); refine goesL_ (some 21) rfl rfl Try.func14 (by kernel_rfl) rfl #[.int .u16 a0] rfl (by (try simp only [List.map_toArray, List.map_cons, List.map_nil]); first | done | rfl | (simp only [List.length_drop, List.length_take]; rfl)) ?_; (with_reducible refine (tegularef21_Small.calls k a0 t377 t378 t381 t382 _ A6.out).mono ?_); rintro e w13 ⟨v379, rfl, ho0, hb⟩; refine ⟨_, rfl, ?_⟩; have n0_ := Aside0.mk (Kd.S_lower ho0 (below_size (by repeat (first | (with_reducible first | exact HB.out | apply below_alloc | apply pw_below_drewN | apply below_drew1) | exact HB.out)))); have n1_ := Aside0.mk (below_step (by repeat (first | (with_reducible first | exact HB.out | apply below_alloc | apply pw_below_drewN | apply below_drew1) | exact HB.out)) hb); clear HB; have HO380 := n0_; have HB := n1_; clear n0_ n1_; (try clear hb); (try clear hb2); (try clear hk); (try clear hi); (try clear ho0)) | ((with_reducible refine gate_dst (N := 7) rfl ?_); (try (refine gate_guard (by rfl) ?_; dsimp only)); refine box_event ?hg (N := 7) ?hd (cs := #[.int .i64 0, .slice none 0 0, .int .i64 0, .int .i64 0]) (t := 28) ?hr ?_; (case hd => rfl); (case hg => rfl); (case hr => first | (go_simp; done) | (go_simp; rfl)); intro gb383 hg w14 hbox hb; have n0_ := Aside0.mk (Kd.S_below (by (with_reducible repeat (first | apply Kd.S_alloc | apply Kd.S_drewN | apply Kd.S_drew)); exact HO380.out) hb); have n1_ := Aside0.mk (below_step (by repeat (first | (with_reducible first | exact HB.out | apply below_alloc | apply pw_below_drewN | apply below_drew1) | exact HB.out)) hb); have n2_ := Aside0.mk (hbox); have n3_ := Aside0.mk ((by rw [hg]; exact (below_size (by repeat (first | (with_reducible first | exact HB.out | apply below_alloc | apply pw_below_drewN | apply below_drew1) | exact HB.out))) : w.heap.size ≤ gb383)); have n4_ := Aside0.mk ((by rw [hg]; exact (below_size (by repeat (first | (with_reducible first | exact HB.out | apply below_alloc | apply pw_below_drewN | apply below_drew1) | exact HB.out))) : w.heap.size ≤ gb383)); clear HO380; clear HB; have HO380 := n0_; have HB := n1_; have BK383 := n2_; have GW383 := n3_; have GE383 := n4_; clear n0_ n1_ n2_ n3_ n4_; clear hb hbox hg; have hcz15_0 : w14.cell? ⟨gb383, 0, none⟩ = some (.int .i64 0) := (blk_cell BK383.out 0).trans rfl; have hcz15_1 : w14.cell? ⟨gb383, 1, none⟩ = some (.slice none 0 0) := (blk_cell BK383.out 1).trans rfl; have hcz15_2 : w14.cell? ⟨gb383, 2, none⟩ = some (.int .i64 0) := (blk_cell BK383.out 2).trans rfl; have hcz15_3 : w14.cell? ⟨gb383, 3, none⟩ = some (.int .i64 0) := (blk_cell BK383.out 3).trans rfl; have hfz15_0 := blk_frozen BK383.out 0; have hfz15_1 := blk_frozen BK383.out 1; have hfz15_2 := blk_frozen BK383.out 2; have hfz15_3 := blk_frozen BK383.out 3; obtain ⟨Ao16, co16, eo16⟩ := Kd.S_slice HO380.out; subst eo16) | ((with_reducible refine gate_callee (f := 34) rfl ?_); refine goesL_ (some 25) rfl rfl Try.func34 (by kernel_rfl) rfl #[.agg #[.int .i64 t377, .slice Ao16 t378.length co16]] rfl (by (try simp only [List.map_toArray, List.map_cons, List.map_nil]); first | done | rfl | (simp only [List.length_drop, List.length_take]; rfl)) ?_; (with_reducible refine (design_Check.calls t377 _ _ t378 t384 t385 t386 _ ?side1 ?side2 A7.out).mono ?_); (case side1 => refine (Kd.S_reads' (e := 56) (base := w.heap.size) (ok := fun k_ => True) (n := t378.length) (c := co16) ?_).2.2; exact (by (with_reducible repeat (first | apply Kd.S_alloc | apply Kd.S_drewN | apply Kd.S_drew)); exact (Kd.S_mono (Kd.S_far (p := ⟨gb383, 3, none⟩) (Kd.S_far (p := ⟨gb383, 2, none⟩) (Kd.S_far (p := ⟨gb383, 1, none⟩) (Kd.S_far (p := ⟨gb383, 0, none⟩) (Kd.S_types HO380.out BK383.out (by decide)) (fun _ hk => hk.2) (.int .i64 t377)) (fun _ hk => hk.2) (.slice Ao16 t378.length co16)) (fun _ hk => hk.2) (.int .i64 t381)) (fun _ hk => hk.2) (.int .i64 t382)) (fun _ h_ => h_.1)))); (case side2 => exact (Kd.S_reads' HO380.out).2.1); rintro e w17 ⟨rfl, hb⟩; refine ⟨_, rfl, ?_⟩; have n0_ := Aside0.mk (Kd.S_below (by (with_reducible repeat (first | apply Kd.S_alloc | apply Kd.S_drewN | apply Kd.S_drew)); exact (Kd.S_mono (Kd.S_far (p := ⟨gb383, 3, none⟩) (Kd.S_far (p := ⟨gb383, 2, none⟩) (Kd.S_far (p := ⟨gb383, 1, none⟩) (Kd.S_far (p := ⟨gb383, 0, none⟩) (Kd.S_types HO380.out BK383.out (by decide)) (fun _ hk => hk.2) (.int .i64 t377)) (fun _ hk => hk.2) (.slice Ao16 t378.length co16)) (fun _ hk => hk.2) (.int .i64 t381)) (fun _ hk => hk.2) (.int .i64 t382)) (fun _ h_ => h_.1))) hb); have n1_ := Aside0.mk (blk_below (g := gb383) (o := .cells #[.int .i64 t377, .slice Ao16 t378.length co16, .int .i64 t381, .int .i64 t382] 28 (0, 0)) (by (with_reducible repeat (first | refine blk_drewN ?_ _ | refine blk_drew ?_ | refine blk_alloc ?_ _)); refine blk_put (cs := #[.int .i64 t377, .slice Ao16 t378.length co16, .int .i64 t381, .int .i64 0]) ?_ 3 _ rfl; (with_reducible repeat (first | refine blk_drewN ?_ _ | refine blk_drew ?_ | refine blk_alloc ?_ _)); refine blk_put (cs := #[.int .i64 t377, .slice Ao16 t378.length co16, .int .i64 0, .int .i64 0]) ?_ 2 _ rfl; (with_reducible repeat (first | refine blk_drewN ?_ _ | refine blk_drew ?_ | refine blk_alloc ?_ _)); refine blk_put (cs := #[.int .i64 t377, .slice none 0 0, .int .i64 0, .int .i64 0]) ?_ 1 _ rfl; (with_reducible repeat (first | refine blk_drewN ?_ _ | refine blk_drew ?_ | refine blk_alloc ?_ _)); refine blk_put (cs := #[.int .i64 0, .slice none 0 0, .int .i64 0, .int .i64 0]) ?_ 0 _ rfl; (with_reducible repeat (first | refine blk_drewN ?_ _ | refine blk_drew ?_ | refine blk_alloc ?_ _)); exact BK383.out) hb); have n2_ := Aside0.mk (below_step (by repeat (first | (with_reducible first | exact HB.out | apply below_alloc | apply pw_below_drewN | apply below_drew1 | refine below_set ?_ GE383.out) | exact HB.out)) hb); clear HO380; clear BK383; clear HB; have HO380 := n0_; have BK383 := n1_; have HB := n2_; clear n0_ n1_ n2_; (try clear hb); (try clear hb2); (try clear hk); (try clear hi)))
      have n0_ := Aside0.mk (Kd.S_drew HO380.out)
      have n1_ := Aside0.mk (blk_drew BK383.out)
      have n2_ := Aside0.mk (below_drew1 HB.out)
      clear HO380
      clear BK383
      clear HB
      have HO380 := n0_
      have BK383 := n1_
      have HB := n2_
      clear n0_ n1_ n2_
      refine start_ (n := 13) (S := fun w' => w'.cell? ⟨gb383, 0, none⟩ = some (.int .i64 t377) ∧ w'.cell? ⟨gb383, 1, none⟩ = some (.slice Ao16 t378.length co16) ∧ w'.cell? ⟨gb383, 2, none⟩ = some (.int .i64 t381) ∧ w'.cell? ⟨gb383, 3, none⟩ = some (.int .i64 t382)) (ds := []) #[false, false, false, false, false, false, false, false, false, false, false, false, false] (by kernel_rfl) rfl rfl ⟨(blk_cell BK383.out 0).trans rfl, (blk_cell BK383.out 1).trans rfl, (blk_cell BK383.out 2).trans rfl, (blk_cell BK383.out 3).trans rfl⟩ (fun hHeld => ?_); refine with_tabW tegulalaw21_LayoutBalance.tab5 tegulalaw21_LayoutBalance.bits5 (fun HT_ HW_ => ?_)
      generalize w17.drew = w18 at HO380 BK383 HB hHeld ⊢
      refine pure_ (i := 1) (N := some 31) (v := ?_) (a' := ?_) #[false, true, false, false, false, false, false, false, false, false, false, false, false] rfl rfl (any_of HT_.out (by kernel_rfl)) (fun _ _ _ h => h) (Or.inl ⟨by rfl, ?_⟩) ?_ ?_
      rotate_left
      · intro w'
        go_simp
        with_reducible rfl
      rotate_left
      · simp only [Act.put, List.setIfInBounds_toArray, List.set_cons_zero, List.set_cons_succ, i64_w, i32_w]
        rfl
      refine pure_ (i := 2) (N := some 32) (v := ?_) (a' := ?_) #[false, true, true, false, false, false, false, false, false, false, false, false, false] rfl rfl (any_of HT_.out (by kernel_rfl)) (fun _ _ _ h => h) (Or.inl ⟨by rfl, ?_⟩) ?_ ?_
      rotate_left
      · intro w'
        go_simp
        with_reducible rfl
      rotate_left
      · simp only [Act.put, List.setIfInBounds_toArray, List.set_cons_zero, List.set_cons_succ, i64_w, i32_w]
        rfl
      refine pure_ (i := 3) (N := some 33) (v := ?_) (a' := ?_) #[false, true, true, true, false, false, false, false, false, false, false, false, false] rfl rfl (any_of HT_.out (by kernel_rfl)) (fun _ _ _ h => h) (Or.inl ⟨by rfl, ?_⟩) ?_ ?_
      rotate_left
      · intro w'
        go_simp
        with_reducible rfl
      rotate_left
      · simp only [Act.put, List.setIfInBounds_toArray, List.set_cons_zero, List.set_cons_succ, i64_w, i32_w]
        rfl
      refine pure_ (i := 4) (N := some 34) (v := ?_) (a' := ?_) #[false, true, true, true, true, false, false, false, false, false, false, false, false] rfl rfl (any_of HT_.out (by kernel_rfl)) (fun _ _ _ h => h) (Or.inl ⟨by rfl, ?_⟩) ?_ ?_
      rotate_left
      · intro w'
        go_simp
        with_reducible rfl
      rotate_left
      · simp only [Act.put, List.setIfInBounds_toArray, List.set_cons_zero, List.set_cons_succ, i64_w, i32_w]
        rfl
      refine take_ (i := 0) (N := some 30) (v := ?_) (a' := ?_) #[true, true, true, true, true, false, false, false, false, false, false, false, false] rfl rfl (take_ofW HT_.out HW_.out (by kernel_rfl)) (fun _ _ _ h => h) (Or.inl ⟨by rfl, ?_⟩) hHeld ?_ ?_
      rotate_left
      · rintro w' ⟨s0, s1, s2, s3⟩
        go_simp
        with_reducible rfl
      rotate_left
      · simp only [Act.put, List.setIfInBounds_toArray, List.set_cons_zero, List.set_cons_succ, i64_w, i32_w]
        rfl
      refine take_ (i := 5) (N := some 35) (v := ?_) (a' := ?_) #[true, true, true, true, true, true, false, false, false, false, false, false, false] rfl rfl (take_ofW HT_.out HW_.out (by kernel_rfl)) (fun _ _ _ h => h) (Or.inl ⟨by rfl, ?_⟩) hHeld ?_ ?_
      rotate_left
      · rintro w' ⟨s0, s1, s2, s3⟩
        go_simp
        with_reducible rfl
      rotate_left
      · simp only [Act.put, List.setIfInBounds_toArray, List.set_cons_zero, List.set_cons_succ, i64_w, i32_w]
        rfl
      refine pure_ (i := 6) (N := some 36) (v := ?_) (a' := ?_) #[true, true, true, true, true, true, true, false, false, false, false, false, false] rfl rfl (any_of HT_.out (by kernel_rfl)) (fun _ _ _ h => h) (Or.inl ⟨by rfl, ?_⟩) ?_ ?_
      rotate_left
      · intro w'
        go_simp
        with_reducible rfl
      rotate_left
      · simp only [Act.put, List.setIfInBounds_toArray, List.set_cons_zero, List.set_cons_succ, i64_w, i32_w]
        rfl
      refine one_ (i := 7) (N := some 37) #[true, true, true, true, true, true, true, true, false, false, false, false, false] rfl rfl (one_of HT_.out (by kernel_rfl)) (by decide) (fun K hK => ?_)
      refine goes_ Try.func33 (by kernel_rfl) rfl #[.agg #[.int .i64 t377, .slice Ao16 t378.length co16, .int .i64 t381, .int .i64 t382], .int .i64 (Int.tmod (wrap64 (a1)) t377)] (by rfl) rfl rfl (by (try simp only [List.map_toArray, List.map_cons, List.map_nil]); first | done | rfl | (simp only [List.length_drop, List.length_take]; rfl)) ?_
      with_reducible refine (layout_OnDisk.calls t377 _ _ t378 t381 t382 (Int.tmod (wrap64 (a1)) t377) t387 t390 _ ?side1 ?side2 A9.out).mono ?_
      (case side1 => repeat (first | exact (Kd.S_reads' HO380.out).2.2 | (with_reducible refine Kd.C_alloc ?_ _) | (with_reducible refine Kd.C_drewN ?_ _) | (with_reducible refine Kd.C_drew ?_)))
      (case side2 => exact (Kd.S_reads' HO380.out).2.1)
      rintro e w19 ⟨v388, rfl, ho0, hb⟩
      refine ⟨_, rfl, ?_⟩
      have n0_ := Aside0.mk (Kd.S_below (by (with_reducible repeat (first | apply Kd.S_alloc | apply Kd.S_drewN | apply Kd.S_drew)); exact HO380.out) hb)
      have n1_ := Aside0.mk (Kd.R_lower ho0 (below_size (by repeat (first | (with_reducible first | exact HB.out | apply below_alloc | apply pw_below_drewN | apply below_drew1 | refine below_set ?_ GE383.out) | exact HB.out))))
      have n2_ := Aside0.mk (blk_below (g := gb383) (o := .cells #[.int .i64 t377, .slice Ao16 t378.length co16, .int .i64 t381, .int .i64 t382] 28 (0, 0)) (by (with_reducible repeat (first | refine blk_drewN ?_ _ | refine blk_drew ?_ | refine blk_alloc ?_ _)); exact BK383.out) hb)
      have n3_ := Aside0.mk (below_step (by repeat (first | (with_reducible first | exact HB.out | apply below_alloc | apply pw_below_drewN | apply below_drew1 | refine below_set ?_ GE383.out) | exact HB.out)) hb)
      clear HO380
      clear BK383
      clear HB
      have HO380 := n0_
      have HO389 := n1_
      have BK383 := n2_
      have HB := n3_
      clear n0_ n1_ n2_ n3_
      (try clear hb)
      (try clear hb2)
      (try clear hk)
      (try clear hi)
      (try clear ho0)
      refine hK.out _ _ ⟨(blk_cell BK383.out 0).trans rfl, (blk_cell BK383.out 1).trans rfl, (blk_cell BK383.out 2).trans rfl, (blk_cell BK383.out 3).trans rfl⟩ (fun hHeld => ?_)
      clear hK K
      refine norm_ (a' := ?_) ?_ ?_
      rotate_left
      · show Act.put _ (some 37) _ = _
        simp only [Act.put, List.setIfInBounds_toArray, List.set_cons_zero, List.set_cons_succ, i64_w, i32_w]
        rfl
      refine pure_ (i := 8) (N := some 29) (v := ?_) (a' := ?_) #[true, true, true, true, true, true, true, true, true, false, false, false, false] rfl rfl (any_of HT_.out (by kernel_rfl)) (fun _ _ _ h => h) (Or.inl ⟨by rfl, ?_⟩) ?_ ?_
      rotate_left
      · intro w'
        go_simp
        with_reducible rfl
      rotate_left
      · simp only [Act.put, List.setIfInBounds_toArray, List.set_cons_zero, List.set_cons_succ, i64_w, i32_w]
        rfl
      refine pure_ (i := 9) (N := some 38) (v := ?_) (a' := ?_) #[true, true, true, true, true, true, true, true, true, true, false, false, false] rfl rfl (any_of HT_.out (by kernel_rfl)) (fun _ _ _ h => h) (Or.inl ⟨by rfl, ?_⟩) ?_ ?_
      rotate_left
      · intro w'
        go_simp
        with_reducible rfl
      rotate_left
      · simp only [Act.put, List.setIfInBounds_toArray, List.set_cons_zero, List.set_cons_succ, i64_w, i32_w]
        rfl
      refine pure_ (i := 10) (N := some 39) (v := ?_) (a' := ?_) #[true, true, true, true, true, true, true, true, true, true, true, false, false] rfl rfl (any_of HT_.out (by kernel_rfl)) (fun _ _ _ h => h) (Or.inl ⟨by rfl, ?_⟩) ?_ ?_
      rotate_left
      · intro w'
        go_simp
        with_reducible rfl
      rotate_left
      · simp only [Act.put, List.setIfInBounds_toArray, List.set_cons_zero, List.set_cons_succ, i64_w, i32_w]
        rfl
      refine pure_ (i := 11) (N := some 11) (v := ?_) (a' := ?_) #[true, true, true, true, true, true, true, true, true, true, true, true, false] rfl rfl (any_of HT_.out (by kernel_rfl)) (fun _ _ _ h => h) (Or.inl ⟨by rfl, ?_⟩) ?_ ?_
      rotate_left
      · intro w'
        go_simp
        with_reducible rfl
      rotate_left
      · simp only [Act.put, List.setIfInBounds_toArray, List.set_cons_zero, List.set_cons_succ, i64_w, i32_w]
        rfl
      refine pure_ (i := 12) (N := some 12) (v := ?_) (a' := ?_) #[true, true, true, true, true, true, true, true, true, true, true, true, true] rfl rfl (any_of HT_.out (by kernel_rfl)) (fun _ _ _ h => h) (Or.inl ⟨by rfl, ?_⟩) ?_ ?_
      rotate_left
      · intro w'
        go_simp
        with_reducible rfl
      rotate_left
      · simp only [Act.put, List.setIfInBounds_toArray, List.set_cons_zero, List.set_cons_succ, i64_w, i32_w]
        rfl
      refine done_ (done_of HT_.out (by kernel_rfl)) ?_
      try go_wp2
      have n0_ := Aside0.mk (Kd.S_drew HO380.out)
      have n1_ := Aside0.mk (Kd.R_drew HO389.out)
      have n2_ := Aside0.mk (blk_drew BK383.out)
      have n3_ := Aside0.mk (below_drew1 HB.out)
      clear HO380
      clear HO389
      clear BK383
      clear HB
      have HO380 := n0_
      have HO389 := n1_
      have BK383 := n2_
      have HB := n3_
      clear n0_ n1_ n2_ n3_
      refine start_ (n := 13) (S := fun w' => w'.cell? ⟨gb383, 0, none⟩ = some (.int .i64 t377) ∧ w'.cell? ⟨gb383, 1, none⟩ = some (.slice Ao16 t378.length co16) ∧ w'.cell? ⟨gb383, 2, none⟩ = some (.int .i64 t381) ∧ w'.cell? ⟨gb383, 3, none⟩ = some (.int .i64 t382)) (ds := []) #[false, false, false, false, false, false, false, false, false, false, false, false, false] (by kernel_rfl) rfl rfl ⟨(blk_cell BK383.out 0).trans rfl, (blk_cell BK383.out 1).trans rfl, (blk_cell BK383.out 2).trans rfl, (blk_cell BK383.out 3).trans rfl⟩ (fun hHeld => ?_); refine with_tabW tegulalaw21_LayoutBalance.tab6 tegulalaw21_LayoutBalance.bits6 (fun HT_ HW_ => ?_)
      generalize w19.drew = w20 at HO380 HO389 BK383 HB hHeld ⊢
      refine pure_ (i := 1) (N := some 42) (v := ?_) (a' := ?_) #[false, true, false, false, false, false, false, false, false, false, false, false, false] rfl rfl (any_of HT_.out (by kernel_rfl)) (fun _ _ _ h => h) (Or.inl ⟨by rfl, ?_⟩) ?_ ?_
      rotate_left
      · intro w'
        go_simp
        with_reducible rfl
      rotate_left
      · simp only [Act.put, List.setIfInBounds_toArray, List.set_cons_zero, List.set_cons_succ, i64_w, i32_w]
        rfl
      refine pure_ (i := 2) (N := some 43) (v := ?_) (a' := ?_) #[false, true, true, false, false, false, false, false, false, false, false, false, false] rfl rfl (any_of HT_.out (by kernel_rfl)) (fun _ _ _ h => h) (Or.inl ⟨by rfl, ?_⟩) ?_ ?_
      rotate_left
      · intro w'
        go_simp
        with_reducible rfl
      rotate_left
      · simp only [Act.put, List.setIfInBounds_toArray, List.set_cons_zero, List.set_cons_succ, i64_w, i32_w]
        rfl
      refine pure_ (i := 3) (N := some 44) (v := ?_) (a' := ?_) #[false, true, true, true, false, false, false, false, false, false, false, false, false] rfl rfl (any_of HT_.out (by kernel_rfl)) (fun _ _ _ h => h) (Or.inl ⟨by rfl, ?_⟩) ?_ ?_
      rotate_left
      · intro w'
        go_simp
        with_reducible rfl
      rotate_left
      · simp only [Act.put, List.setIfInBounds_toArray, List.set_cons_zero, List.set_cons_succ, i64_w, i32_w]
        rfl
      refine pure_ (i := 4) (N := some 45) (v := ?_) (a' := ?_) #[false, true, true, true, true, false, false, false, false, false, false, false, false] rfl rfl (any_of HT_.out (by kernel_rfl)) (fun _ _ _ h => h) (Or.inl ⟨by rfl, ?_⟩) ?_ ?_
      rotate_left
      · intro w'
        go_simp
        with_reducible rfl
      rotate_left
      · simp only [Act.put, List.setIfInBounds_toArray, List.set_cons_zero, List.set_cons_succ, i64_w, i32_w]
        rfl
      refine take_ (i := 0) (N := some 41) (v := ?_) (a' := ?_) #[true, true, true, true, true, false, false, false, false, false, false, false, false] rfl rfl (take_ofW HT_.out HW_.out (by kernel_rfl)) (fun _ _ _ h => h) (Or.inl ⟨by rfl, ?_⟩) hHeld ?_ ?_
      rotate_left
      · rintro w' ⟨s0, s1, s2, s3⟩
        go_simp
        with_reducible rfl
      rotate_left
      · simp only [Act.put, List.setIfInBounds_toArray, List.set_cons_zero, List.set_cons_succ, i64_w, i32_w]
        rfl
      refine take_ (i := 5) (N := some 46) (v := ?_) (a' := ?_) #[true, true, true, true, true, true, false, false, false, false, false, false, false] rfl rfl (take_ofW HT_.out HW_.out (by kernel_rfl)) (fun _ _ _ h => h) (Or.inl ⟨by rfl, ?_⟩) hHeld ?_ ?_
      rotate_left
      · rintro w' ⟨s0, s1, s2, s3⟩
        go_simp
        with_reducible rfl
      rotate_left
      · simp only [Act.put, List.setIfInBounds_toArray, List.set_cons_zero, List.set_cons_succ, i64_w, i32_w]
        rfl
      refine pure_ (i := 6) (N := some 47) (v := ?_) (a' := ?_) #[true, true, true, true, true, true, true, false, false, false, false, false, false] rfl rfl (any_of HT_.out (by kernel_rfl)) (fun _ _ _ h => h) (Or.inl ⟨by rfl, ?_⟩) ?_ ?_
      rotate_left
      · intro w'
        go_simp
        with_reducible rfl
      rotate_left
      · simp only [Act.put, List.setIfInBounds_toArray, List.set_cons_zero, List.set_cons_succ, i64_w, i32_w]
        rfl
      refine one_ (i := 7) (N := some 48) #[true, true, true, true, true, true, true, true, false, false, false, false, false] rfl rfl (one_of HT_.out (by kernel_rfl)) (by decide) (fun K hK => ?_)
      refine goes_ Try.func33 (by kernel_rfl) rfl #[.agg #[.int .i64 t377, .slice Ao16 t378.length co16, .int .i64 t381, .int .i64 t382], .int .i64 (Int.tmod (wrap64 (a2)) t377)] (by rfl) rfl rfl (by (try simp only [List.map_toArray, List.map_cons, List.map_nil]); first | done | rfl | (simp only [List.length_drop, List.length_take]; rfl)) ?_
      with_reducible refine (layout_OnDisk.calls t377 _ _ t378 t381 t382 (Int.tmod (wrap64 (a2)) t377) t391 t394 _ ?side1 ?side2 A10.out).mono ?_
      (case side1 => repeat (first | exact (Kd.S_reads' HO380.out).2.2 | (with_reducible refine Kd.C_alloc ?_ _) | (with_reducible refine Kd.C_drewN ?_ _) | (with_reducible refine Kd.C_drew ?_)))
      (case side2 => exact (Kd.S_reads' HO380.out).2.1)
      rintro e w21 ⟨v392, rfl, ho0, hb⟩
      refine ⟨_, rfl, ?_⟩
      have n0_ := Aside0.mk (Kd.S_below (by (with_reducible repeat (first | apply Kd.S_alloc | apply Kd.S_drewN | apply Kd.S_drew)); exact HO380.out) hb)
      have n1_ := Aside0.mk (Kd.R_elder' (by (with_reducible repeat (first | apply Kd.R_alloc | apply Kd.R_drewN | apply Kd.R_drew)); exact HO389.out) (Kd.R_base ho0) hb)
      have n2_ := Aside0.mk (Kd.R_lower (Kd.R_new' ho0 (Kd.R_lt (by (with_reducible repeat (first | apply Kd.R_alloc | apply Kd.R_drewN | apply Kd.R_drew)); exact HO389.out))) (below_size (by repeat (first | (with_reducible first | exact HB.out | apply below_alloc | apply pw_below_drewN | apply below_drew1 | refine below_set ?_ GE383.out) | exact HB.out))))
      have n3_ := Aside0.mk (blk_below (g := gb383) (o := .cells #[.int .i64 t377, .slice Ao16 t378.length co16, .int .i64 t381, .int .i64 t382] 28 (0, 0)) (by (with_reducible repeat (first | refine blk_drewN ?_ _ | refine blk_drew ?_ | refine blk_alloc ?_ _)); exact BK383.out) hb)
      have n4_ := Aside0.mk (below_step (by repeat (first | (with_reducible first | exact HB.out | apply below_alloc | apply pw_below_drewN | apply below_drew1 | refine below_set ?_ GE383.out) | exact HB.out)) hb)
      clear HO380
      clear HO389
      clear BK383
      clear HB
      have HO380 := n0_
      have HO389 := n1_
      have HO393 := n2_
      have BK383 := n3_
      have HB := n4_
      clear n0_ n1_ n2_ n3_ n4_
      (try clear hb)
      (try clear hb2)
      (try clear hk)
      (try clear hi)
      (try clear ho0)
      refine hK.out _ _ ⟨(blk_cell BK383.out 0).trans rfl, (blk_cell BK383.out 1).trans rfl, (blk_cell BK383.out 2).trans rfl, (blk_cell BK383.out 3).trans rfl⟩ (fun hHeld => ?_)
      clear hK K
      refine norm_ (a' := ?_) ?_ ?_
      rotate_left
      · show Act.put _ (some 48) _ = _
        simp only [Act.put, List.setIfInBounds_toArray, List.set_cons_zero, List.set_cons_succ, i64_w, i32_w]
        rfl
      refine pure_ (i := 8) (N := some 40) (v := ?_) (a' := ?_) #[true, true, true, true, true, true, true, true, true, false, false, false, false] rfl rfl (any_of HT_.out (by kernel_rfl)) (fun _ _ _ h => h) (Or.inl ⟨by rfl, ?_⟩) ?_ ?_
      rotate_left
      · intro w'
        go_simp
        with_reducible rfl
      rotate_left
      · simp only [Act.put, List.setIfInBounds_toArray, List.set_cons_zero, List.set_cons_succ, i64_w, i32_w]
        rfl
      refine pure_ (i := 9) (N := some 49) (v := ?_) (a' := ?_) #[true, true, true, true, true, true, true, true, true, true, false, false, false] rfl rfl (any_of HT_.out (by kernel_rfl)) (fun _ _ _ h => h) (Or.inl ⟨by rfl, ?_⟩) ?_ ?_
      rotate_left
      · intro w'
        go_simp
        with_reducible rfl
      rotate_left
      · simp only [Act.put, List.setIfInBounds_toArray, List.set_cons_zero, List.set_cons_succ, i64_w, i32_w]
        rfl
      refine pure_ (i := 10) (N := some 50) (v := ?_) (a' := ?_) #[true, true, true, true, true, true, true, true, true, true, true, false, false] rfl rfl (any_of HT_.out (by kernel_rfl)) (fun _ _ _ h => h) (Or.inl ⟨by rfl, ?_⟩) ?_ ?_
      rotate_left
      · intro w'
        go_simp
        with_reducible rfl
      rotate_left
      · simp only [Act.put, List.setIfInBounds_toArray, List.set_cons_zero, List.set_cons_succ, i64_w, i32_w]
        rfl
      refine pure_ (i := 11) (N := some 13) (v := ?_) (a' := ?_) #[true, true, true, true, true, true, true, true, true, true, true, true, false] rfl rfl (any_of HT_.out (by kernel_rfl)) (fun _ _ _ h => h) (Or.inl ⟨by rfl, ?_⟩) ?_ ?_
      rotate_left
      · intro w'
        go_simp
        with_reducible rfl
      rotate_left
      · simp only [Act.put, List.setIfInBounds_toArray, List.set_cons_zero, List.set_cons_succ, i64_w, i32_w]
        rfl
      refine pure_ (i := 12) (N := some 14) (v := ?_) (a' := ?_) #[true, true, true, true, true, true, true, true, true, true, true, true, true] rfl rfl (any_of HT_.out (by kernel_rfl)) (fun _ _ _ h => h) (Or.inl ⟨by rfl, ?_⟩) ?_ ?_
      rotate_left
      · intro w'
        go_simp
        with_reducible rfl
      rotate_left
      · simp only [Act.put, List.setIfInBounds_toArray, List.set_cons_zero, List.set_cons_succ, i64_w, i32_w]
        rfl
      refine done_ (done_of HT_.out (by kernel_rfl)) ?_
      go_upto_region 7 with (fail)
      go_cut [78] (fun v78 wc => ∃ (kq : Nat) (x78_10 : Bool), v78 = .bool x78_10 ∧ Aside0 (tegulalaw21_LayoutBalance.j0 kq a1 a2 t384 t385 t387 t391 x78_10 t377 t378 t381 t382 = some r) ∧ Aside0 (kq ≤ k) ∧ Aside0 (Kd.R k52 52 wc w.heap.size (fun k_ => some k_ ≠ (v392 : Value).ownBlock) v388 t387) ∧ Aside0 (Kd.R k52 52 wc w.heap.size (fun k_ => some k_ ≠ (v388 : Value).ownBlock) v392 t391) ∧ Aside0 (Kd.S (Kd.slice 3 (Kd.int .i64)) 56 wc w.heap.size (fun _ => True) (.slice Ao16 t378.length co16) t378) ∧ Aside0 (wc.heap[gb383]? = some (.cells #[.int .i64 t377, (.slice Ao16 t378.length co16), .int .i64 t381, .int .i64 t382] 28 (0, 0))) ∧ Aside0 (Below w.heap.size w wc))
      case first =>
        have H := HC11.out
        clear HC11
        by_cases c22 : t386 = 0
        · rw [if_pos c22] at H
          have c22b0 : (t386 == 0) = true := beq_iff_eq.mpr c22
          have c22b1 : (t386 != 0) = false := bne_eq_false_iff_eq.mpr c22
          clear c22
          (first | rw [c22b0] | (simp only [i64_w, i32_w]; rw [c22b0]) | skip)
          by_cases c23 : t390 = 0
          · rw [if_pos c23] at H
            have c23b0 : (t390 == 0) = true := beq_iff_eq.mpr c23
            have c23b1 : (t390 != 0) = false := bne_eq_false_iff_eq.mpr c23
            clear c23
            by_cases c24 : t394 = 0
            · rw [if_pos c24] at H
              have c24b0 : (t394 == 0) = true := beq_iff_eq.mpr c24
              have c24b1 : (t394 != 0) = false := bne_eq_false_iff_eq.mpr c24
              clear c24
              by_cases c25 : (t387.length : Int) = (wrap64 (t381 * t384))
              · rw [if_pos c25] at H
                have c25b0 : ((t387.length : Int) == (wrap64 (t381 * t384))) = true := beq_iff_eq.mpr c25
                have c25b1 : ((t387.length : Int) != (wrap64 (t381 * t384))) = false := bne_eq_false_iff_eq.mpr c25
                clear c25
                have H' := Aside0.mk H
                clear H
                obtain ⟨Ao26, co26, eo26⟩ := Kd.R_slice HO389.out
                subst eo26
                have hcz27_0 : w21.cell? ⟨gb383, 0, none⟩ = some (.int .i64 t377) := (blk_cell BK383.out 0).trans rfl
                have hcz27_1 : w21.cell? ⟨gb383, 1, none⟩ = some (.slice Ao16 t378.length co16) := (blk_cell BK383.out 1).trans rfl
                have hcz27_2 : w21.cell? ⟨gb383, 2, none⟩ = some (.int .i64 t381) := (blk_cell BK383.out 2).trans rfl
                have hcz27_3 : w21.cell? ⟨gb383, 3, none⟩ = some (.int .i64 t382) := (blk_cell BK383.out 3).trans rfl
                have hfz27_0 := blk_frozen BK383.out 0
                have hfz27_1 := blk_frozen BK383.out 1
                have hfz27_2 := blk_frozen BK383.out 2
                have hfz27_3 := blk_frozen BK383.out 3
                obtain ⟨Ao28, co28, eo28⟩ := Kd.R_slice HO393.out
                subst eo28
                go_wp2
                go_meet
                case rel => exact ⟨_, (((t391.length : Int) != (wrap64 (t381 * t384)))), (by first | rfl | (simp; done) | (simp [*]; done)), H', ⟨by first | omega | exact Nat.le_refl _⟩, ⟨by (with_reducible repeat (first | apply Kd.R_alloc | apply Kd.R_drewN | apply Kd.R_drew)); exact Kd.R_mono HO389.out (fun _ hk => hk.2)⟩, ⟨by (with_reducible repeat (first | apply Kd.R_alloc | apply Kd.R_drewN | apply Kd.R_drew)); exact Kd.R_mono HO393.out (fun _ hk => hk.2)⟩, ⟨by (with_reducible repeat (first | apply Kd.S_alloc | apply Kd.S_drewN | apply Kd.S_drew)); exact HO380.out⟩, ⟨by (with_reducible repeat (first | refine blk_drewN ?_ _ | refine blk_drew ?_ | refine blk_alloc ?_ _)); exact BK383.out⟩, ⟨by repeat (first | (with_reducible first | exact HB.out | apply below_alloc | apply pw_below_drewN | apply below_drew1 | refine below_set ?_ GE383.out) | exact HB.out)⟩⟩
              · rw [if_neg c25] at H
                have c25b0 : ((t387.length : Int) == (wrap64 (t381 * t384))) = false := beq_eq_false_iff_ne.mpr c25
                have c25b1 : ((t387.length : Int) != (wrap64 (t381 * t384))) = true := bne_iff_ne.mpr c25
                have H' := Aside0.mk H
                clear H
                obtain ⟨Ao29, co29, eo29⟩ := Kd.R_slice HO389.out
                subst eo29
                have hcz30_0 : w21.cell? ⟨gb383, 0, none⟩ = some (.int .i64 t377) := (blk_cell BK383.out 0).trans rfl
                have hcz30_1 : w21.cell? ⟨gb383, 1, none⟩ = some (.slice Ao16 t378.length co16) := (blk_cell BK383.out 1).trans rfl
                have hcz30_2 : w21.cell? ⟨gb383, 2, none⟩ = some (.int .i64 t381) := (blk_cell BK383.out 2).trans rfl
                have hcz30_3 : w21.cell? ⟨gb383, 3, none⟩ = some (.int .i64 t382) := (blk_cell BK383.out 3).trans rfl
                have hfz30_0 := blk_frozen BK383.out 0
                have hfz30_1 := blk_frozen BK383.out 1
                have hfz30_2 := blk_frozen BK383.out 2
                have hfz30_3 := blk_frozen BK383.out 3
                go_wp2
                go_meet
                case rel => exact ⟨_, (true), (by first | rfl | (simp; done) | (simp [*]; done)), H', ⟨by first | omega | exact Nat.le_refl _⟩, ⟨by (with_reducible repeat (first | apply Kd.R_alloc | apply Kd.R_drewN | apply Kd.R_drew)); exact Kd.R_mono HO389.out (fun _ hk => hk.2)⟩, ⟨by (with_reducible repeat (first | apply Kd.R_alloc | apply Kd.R_drewN | apply Kd.R_drew)); exact Kd.R_mono HO393.out (fun _ hk => hk.2)⟩, ⟨by (with_reducible repeat (first | apply Kd.S_alloc | apply Kd.S_drewN | apply Kd.S_drew)); exact HO380.out⟩, ⟨by (with_reducible repeat (first | refine blk_drewN ?_ _ | refine blk_drew ?_ | refine blk_alloc ?_ _)); exact BK383.out⟩, ⟨by repeat (first | (with_reducible first | exact HB.out | apply below_alloc | apply pw_below_drewN | apply below_drew1 | refine below_set ?_ GE383.out) | exact HB.out)⟩⟩
            · rw [if_neg c24] at H
              have c24b0 : (t394 == 0) = false := beq_eq_false_iff_ne.mpr c24
              have c24b1 : (t394 != 0) = true := bne_iff_ne.mpr c24
              have H' := Aside0.mk H
              clear H
              go_wp2
              go_meet
              case rel => exact ⟨_, (true), (by first | rfl | (simp; done) | (simp [*]; done)), H', ⟨by first | omega | exact Nat.le_refl _⟩, ⟨by (with_reducible repeat (first | apply Kd.R_alloc | apply Kd.R_drewN | apply Kd.R_drew)); exact Kd.R_mono HO389.out (fun _ hk => hk.2)⟩, ⟨by (with_reducible repeat (first | apply Kd.R_alloc | apply Kd.R_drewN | apply Kd.R_drew)); exact Kd.R_mono HO393.out (fun _ hk => hk.2)⟩, ⟨by (with_reducible repeat (first | apply Kd.S_alloc | apply Kd.S_drewN | apply Kd.S_drew)); exact HO380.out⟩, ⟨by (with_reducible repeat (first | refine blk_drewN ?_ _ | refine blk_drew ?_ | refine blk_alloc ?_ _)); exact BK383.out⟩, ⟨by repeat (first | (with_reducible first | exact HB.out | apply below_alloc | apply pw_below_drewN | apply below_drew1 | refine below_set ?_ GE383.out) | exact HB.out)⟩⟩
          · rw [if_neg c23] at H
            have c23b0 : (t390 == 0) = false := beq_eq_false_iff_ne.mpr c23
            have c23b1 : (t390 != 0) = true := bne_iff_ne.mpr c23
            have H' := Aside0.mk H
            clear H
            go_wp2
            go_meet
            case rel => exact ⟨_, (true), (by first | rfl | (simp; done) | (simp [*]; done)), H', ⟨by first | omega | exact Nat.le_refl _⟩, ⟨by (with_reducible repeat (first | apply Kd.R_alloc | apply Kd.R_drewN | apply Kd.R_drew)); exact Kd.R_mono HO389.out (fun _ hk => hk.2)⟩, ⟨by (with_reducible repeat (first | apply Kd.R_alloc | apply Kd.R_drewN | apply Kd.R_drew)); exact Kd.R_mono HO393.out (fun _ hk => hk.2)⟩, ⟨by (with_reducible repeat (first | apply Kd.S_alloc | apply Kd.S_drewN | apply Kd.S_drew)); exact HO380.out⟩, ⟨by (with_reducible repeat (first | refine blk_drewN ?_ _ | refine blk_drew ?_ | refine blk_alloc ?_ _)); exact BK383.out⟩, ⟨by repeat (first | (with_reducible first | exact HB.out | apply below_alloc | apply pw_below_drewN | apply below_drew1 | refine below_set ?_ GE383.out) | exact HB.out)⟩⟩
        · rw [if_neg c22] at H
          have c22b0 : (t386 == 0) = false := beq_eq_false_iff_ne.mpr c22
          have c22b1 : (t386 != 0) = true := bne_iff_ne.mpr c22
          (first | rw [c22b0] | (simp only [i64_w, i32_w]; rw [c22b0]) | skip)
          have H' := Aside0.mk H
          clear H
          go_wp2
          go_meet
          case rel => exact ⟨_, (true), (by first | rfl | (simp; done) | (simp [*]; done)), H', ⟨by first | omega | exact Nat.le_refl _⟩, ⟨by (with_reducible repeat (first | apply Kd.R_alloc | apply Kd.R_drewN | apply Kd.R_drew)); exact Kd.R_mono HO389.out (fun _ hk => hk.2)⟩, ⟨by (with_reducible repeat (first | apply Kd.R_alloc | apply Kd.R_drewN | apply Kd.R_drew)); exact Kd.R_mono HO393.out (fun _ hk => hk.2)⟩, ⟨by (with_reducible repeat (first | apply Kd.S_alloc | apply Kd.S_drewN | apply Kd.S_drew)); exact HO380.out⟩, ⟨by (with_reducible repeat (first | refine blk_drewN ?_ _ | refine blk_drew ?_ | refine blk_alloc ?_ _)); exact BK383.out⟩, ⟨by repeat (first | (with_reducible first | exact HB.out | apply below_alloc | apply pw_below_drewN | apply below_drew1 | refine below_set ?_ GE383.out) | exact HB.out)⟩⟩
      case rest =>
        clear HC11
        try clear c1
        try clear c2
        try clear p2
        try clear c3
        try clear c5
        try clear p6
        try clear c8
        try clear c8b0
        try clear c8b1
        try clear c9
        try clear c13
        try clear c14
        try clear c22
        try clear c22b0
        try clear c22b1
        try clear c23
        try clear c23b0
        try clear c23b1
        try clear c24
        try clear c24b0
        try clear c24b1
        try clear c25
        try clear c25b0
        try clear c25b1
        try clear hcz15_0
        try clear hcz15_1
        try clear hcz15_2
        try clear hcz15_3
        try clear hcz27_0
        try clear hcz27_1
        try clear hcz27_2
        try clear hcz27_3
        try clear hcz30_0
        try clear hcz30_1
        try clear hcz30_2
        try clear hcz30_3
        try clear hfz15_0
        try clear hfz15_1
        try clear hfz15_2
        try clear hfz15_3
        try clear hfz27_0
        try clear hfz27_1
        try clear hfz27_2
        try clear hfz27_3
        try clear hfz30_0
        try clear hfz30_1
        try clear hfz30_2
        try clear hfz30_3
        obtain ⟨kq, x78_10, rfl, HA, HJ10, HO_11, HO_13, HO_384001, BK383, HB⟩ := hcut
        cases kq with
        | zero => exact absurd HA.out (by simp [tegulalaw21_LayoutBalance.j0])
        | succ kj10 =>
          have H := HA.out
          clear HA
          simp only [tegulalaw21_LayoutBalance.j0] at H
          by_cases c31 : x78_10 = true
          · subst c31
            have H1 : (some false) = some r := by rw [if_pos rfl] at H; exact H
            clear H
            have H := H1
            clear H1
            obtain rfl := Option.some.inj H
            go_wp2
            go_ret
            exact ⟨by first | rfl | (simp [errW_none, errW_some] <;> rfl) | (simp [*, errW_none, errW_some] <;> rfl), by repeat (first | (with_reducible first | exact HB.out | apply below_alloc | apply pw_below_drewN | apply below_drew1 | refine below_set ?_ GE383.out) | exact HB.out)⟩
          · replace c31 := Bool.eq_false_iff.mpr c31
            subst c31
            have H1 : (tegulalaw21_LayoutBalance.l0 kj10 a1 a2 t384 t385 t387 t391 0 0 t377 t378 t381 t382) = some r := by rw [if_neg (show ¬ (false = true) by decide)] at H; exact H
            clear H
            have H := H1
            clear H1
            have H' := Aside0.mk H
            clear H
            go_wp2
            go_loopg [15, 16] kj10 (fun kq v15 v16 w' => ∃ (x15_2 : Int) (x16_2 : Int), v15 = .int .i64 x15_2 ∧ v16 = .int .i64 x16_2 ∧ Aside0 (tegulalaw21_LayoutBalance.l0 kq a1 a2 t384 t385 t387 t391 x15_2 x16_2 t377 t378 t381 t382 = some r) ∧ Aside0 (kq ≤ kj10) ∧ Aside0 (Kd.R k52 52 w' w.heap.size (fun k_ => some k_ ≠ (v392 : Value).ownBlock) v388 t387) ∧ Aside0 (Kd.R k52 52 w' w.heap.size (fun k_ => some k_ ≠ (v388 : Value).ownBlock) v392 t391) ∧ Aside0 (Kd.S (Kd.slice 3 (Kd.int .i64)) 56 w' w.heap.size (fun _ => True) (.slice Ao16 t378.length co16) t378) ∧ Aside0 (w'.heap[gb383]? = some (.cells #[.int .i64 t377, (.slice Ao16 t378.length co16), .int .i64 t381, .int .i64 t382] 28 (0, 0))) ∧ Aside0 (Below w.heap.size w w'))
            case atStart => exact ⟨(0), (0), (by first | rfl | (simp; done) | (simp [*]; done)), (by first | rfl | (simp; done) | (simp [*]; done)), H', ⟨Nat.le_refl _⟩, ⟨by (with_reducible repeat (first | apply Kd.R_alloc | apply Kd.R_drewN | apply Kd.R_drew)); exact HO_11.out⟩, ⟨by (with_reducible repeat (first | apply Kd.R_alloc | apply Kd.R_drewN | apply Kd.R_drew)); exact HO_13.out⟩, ⟨by (with_reducible repeat (first | apply Kd.S_alloc | apply Kd.S_drewN | apply Kd.S_drew)); exact HO_384001.out⟩, ⟨by (with_reducible repeat (first | refine blk_drewN ?_ _ | refine blk_drew ?_ | refine blk_alloc ?_ _)); exact BK383.out⟩, ⟨by repeat (first | (with_reducible first | exact HB.out | apply below_alloc | apply pw_below_drewN | apply below_drew1 | refine below_set ?_ GE383.out) | exact HB.out)⟩⟩
            case round =>
              clear H'
              try clear c1
              try clear c2
              try clear p2
              try clear c3
              try clear c5
              try clear p6
              try clear c8
              try clear c8b0
              try clear c8b1
              try clear c9
              try clear c13
              try clear c14
              try clear c22
              try clear c22b0
              try clear c22b1
              try clear c23
              try clear c23b0
              try clear c23b1
              try clear c24
              try clear c24b0
              try clear c24b1
              try clear c25
              try clear c25b0
              try clear c25b1
              try clear c31
              try clear hcz15_0
              try clear hcz15_1
              try clear hcz15_2
              try clear hcz15_3
              try clear hcz27_0
              try clear hcz27_1
              try clear hcz27_2
              try clear hcz27_3
              try clear hcz30_0
              try clear hcz30_1
              try clear hcz30_2
              try clear hcz30_3
              try clear hfz15_0
              try clear hfz15_1
              try clear hfz15_2
              try clear hfz15_3
              try clear hfz27_0
              try clear hfz27_1
              try clear hfz27_2
              try clear hfz27_3
              try clear hfz30_0
              try clear hfz30_1
              try clear hfz30_2
              try clear hfz30_3
              try clear p2
              try clear p6
              obtain ⟨x15_2, x16_2, rfl, rfl, HA, HK2, HO_11, HO_13, HO_384001, BK383, HB⟩ := hrel
              cases gk with
              | zero => exact absurd HA.out (by simp [tegulalaw21_LayoutBalance.l0])
              | succ k2 =>
                have H := HA.out
                clear HA
                simp only [tegulalaw21_LayoutBalance.l0] at H
                by_cases c32 : x16_2 < (t387.length : Int)
                · rw [if_pos c32] at H
                  have c32b0 : decide (x16_2 < (t387.length : Int)) = true := decide_eq_true c32
                  clear c32
                  have H' := Aside0.mk H
                  clear H
                  obtain ⟨Ao33, co33, eo33⟩ := Kd.R_slice HO_11.out
                  subst eo33
                  go_wp2
                  go_loopg [15, 17] k2 (fun kq v15 v17 w' => ∃ (x15_3 : Int) (x17_3 : Int), v15 = .int .i64 x15_3 ∧ v17 = .int .i64 x17_3 ∧ Aside0 (tegulalaw21_LayoutBalance.l1 kq a1 a2 t384 t385 t387 t391 x15_3 x16_2 x17_3 t377 t378 t381 t382 = some r) ∧ Aside0 (kq ≤ k2) ∧ Aside0 (Kd.R k52 52 w' w.heap.size (fun k_ => some k_ ≠ (v392 : Value).ownBlock) (.slice Ao33 t387.length co33) t387) ∧ Aside0 (Kd.R k52 52 w' w.heap.size (fun k_ => some k_ ≠ ((.slice Ao33 t387.length co33) : Value).ownBlock) v392 t391) ∧ Aside0 (Kd.S (Kd.slice 3 (Kd.int .i64)) 56 w' w.heap.size (fun _ => True) (.slice Ao16 t378.length co16) t378) ∧ Aside0 (w'.heap[gb383]? = some (.cells #[.int .i64 t377, (.slice Ao16 t378.length co16), .int .i64 t381, .int .i64 t382] 28 (0, 0))) ∧ Aside0 (Below w.heap.size w w'))
                  case atStart => exact ⟨(x15_2), (0), (by first | rfl | (simp; done) | (simp [*]; done)), (by first | rfl | (simp; done) | (simp [*]; done)), H', ⟨Nat.le_refl _⟩, ⟨by (with_reducible repeat (first | apply Kd.R_alloc | apply Kd.R_drewN | apply Kd.R_drew)); exact HO_11.out⟩, ⟨by (with_reducible repeat (first | apply Kd.R_alloc | apply Kd.R_drewN | apply Kd.R_drew)); exact HO_13.out⟩, ⟨by (with_reducible repeat (first | apply Kd.S_alloc | apply Kd.S_drewN | apply Kd.S_drew)); exact HO_384001.out⟩, ⟨by (with_reducible repeat (first | refine blk_drewN ?_ _ | refine blk_drew ?_ | refine blk_alloc ?_ _)); exact BK383.out⟩, ⟨by repeat (first | (with_reducible first | exact HB.out | apply below_alloc | apply pw_below_drewN | apply below_drew1 | refine below_set ?_ GE383.out) | exact HB.out)⟩⟩
                  case round =>
                    clear H'
                    try clear c1
                    try clear c2
                    try clear p2
                    try clear c3
                    try clear c5
                    try clear p6
                    try clear c8
                    try clear c8b0
                    try clear c8b1
                    try clear c9
                    try clear c13
                    try clear c14
                    try clear c22
                    try clear c22b0
                    try clear c22b1
                    try clear c23
                    try clear c23b0
                    try clear c23b1
                    try clear c24
                    try clear c24b0
                    try clear c24b1
                    try clear c25
                    try clear c25b0
                    try clear c25b1
                    try clear c31
                    try clear c32
                    try clear c32b0
                    try clear c33
                    try clear hcz15_0
                    try clear hcz15_1
                    try clear hcz15_2
                    try clear hcz15_3
                    try clear hcz27_0
                    try clear hcz27_1
                    try clear hcz27_2
                    try clear hcz27_3
                    try clear hcz30_0
                    try clear hcz30_1
                    try clear hcz30_2
                    try clear hcz30_3
                    try clear hfz15_0
                    try clear hfz15_1
                    try clear hfz15_2
                    try clear hfz15_3
                    try clear hfz27_0
                    try clear hfz27_1
                    try clear hfz27_2
                    try clear hfz27_3
                    try clear hfz30_0
                    try clear hfz30_1
                    try clear hfz30_2
                    try clear hfz30_3
                    try clear p2
                    try clear p6
                    obtain ⟨x15_3, x17_3, rfl, rfl, HA, HK3, HO_11, HO_13, HO_384001, BK383, HB⟩ := hrel
                    cases gk with
                    | zero => exact absurd HA.out (by simp [tegulalaw21_LayoutBalance.l1])
                    | succ k3 =>
                      have H := HA.out
                      clear HA
                      simp only [tegulalaw21_LayoutBalance.l1] at H
                      by_cases c34 : x17_3 < (t391.length : Int)
                      · rw [if_pos c34] at H
                        have c34b0 : decide (x17_3 < (t391.length : Int)) = true := decide_eq_true c34
                        clear c34
                        by_cases c35 : 0 ≤ x16_2
                        · rw [if_pos c35] at H
                          have c35b0 : decide (0 ≤ x16_2) = true := decide_eq_true c35
                          clear c35
                          by_cases c36 : x16_2 < (t387.length : Int)
                          · rw [if_pos c36] at H
                            have c36b0 : decide (x16_2 < (t387.length : Int)) = true := decide_eq_true c36
                            clear c36
                            by_cases c37 : 0 ≤ x17_3
                            · rw [if_pos c37] at H
                              have c37b0 : decide (0 ≤ x17_3) = true := decide_eq_true c37
                              clear c37
                              by_cases c38 : ((rd_T52 t387 x16_2).f0) = ((rd_T52 t391 x17_3).f0)
                              · rw [if_pos c38] at H
                                have c38b0 : (((rd_T52 t387 x16_2).f0) == ((rd_T52 t391 x17_3).f0)) = true := beq_iff_eq.mpr c38
                                have c38b1 : (((rd_T52 t387 x16_2).f0) != ((rd_T52 t391 x17_3).f0)) = false := bne_eq_false_iff_eq.mpr c38
                                clear c38
                                have H' := Aside0.mk H
                                clear H
                                obtain ⟨Ao39, co39, eo39⟩ := Kd.R_slice HO_13.out
                                subst eo39
                                try go_wp2
                                have n0_ := Aside0.mk (Kd.R_drew HO_11.out)
                                have n1_ := Aside0.mk (Kd.R_drew HO_13.out)
                                have n2_ := Aside0.mk (Kd.S_drew HO_384001.out)
                                have n3_ := Aside0.mk (blk_drew BK383.out)
                                have n4_ := Aside0.mk (below_drew1 HB.out)
                                clear HO_11
                                clear HO_13
                                clear HO_384001
                                clear BK383
                                clear HB
                                have HO_11 := n0_
                                have HO_13 := n1_
                                have HO_384001 := n2_
                                have BK383 := n3_
                                have HB := n4_
                                clear n0_ n1_ n2_ n3_ n4_
                                have p395 : 0 ≤ (x16_2 : Int) := of_decide_eq_true (by first | (with_reducible assumption) | assumption)
                                have q395 : x16_2 < (t387.length : Int) := of_decide_eq_true (by first | (with_reducible assumption) | assumption)
                                obtain ⟨ad395, e395, hx395_0, hx395_1⟩ := at_T52 (Kd.R_reads' HO_11.out).2.2 x16_2 p395 q395
                                cases e395
                                replace p395 := eq_true p395
                                replace q395 := eq_true q395
                                have p396 : 0 ≤ (x17_3 : Int) := of_decide_eq_true (by first | (with_reducible assumption) | assumption)
                                have q396 : x17_3 < (t391.length : Int) := of_decide_eq_true (by first | (with_reducible assumption) | assumption)
                                obtain ⟨ad396, e396, hx396_0, hx396_1⟩ := at_T52 (Kd.R_reads' HO_13.out).2.2 x17_3 p396 q396
                                cases e396
                                replace p396 := eq_true p396
                                replace q396 := eq_true q396
                                refine start_ (n := 11) (S := fun w' => w'.cell? (ad395.add ((x16_2).toNat * 2)) = some (.int .i64 ((rd_T52 t387 x16_2).f0)) ∧ w'.cell? ⟨(ad395.add ((x16_2).toNat * 2)).block, (ad395.add ((x16_2).toNat * 2)).off + 1, none⟩ = some (.int .i64 ((rd_T52 t387 x16_2).f1)) ∧ w'.cell? (ad396.add ((x17_3).toNat * 2)) = some (.int .i64 ((rd_T52 t391 x17_3).f0)) ∧ w'.cell? ⟨(ad396.add ((x17_3).toNat * 2)).block, (ad396.add ((x17_3).toNat * 2)).off + 1, none⟩ = some (.int .i64 ((rd_T52 t391 x17_3).f1))) (ds := []) #[false, false, false, false, false, false, false, false, false, false, false] (by kernel_rfl) rfl rfl ⟨hx395_0, hx395_1, hx396_0, hx396_1⟩ (fun hHeld => ?_); refine with_tabW tegulalaw21_LayoutBalance.tab16 tegulalaw21_LayoutBalance.bits16 (fun HT_ HW_ => ?_)
                                generalize wr.drew = w40 at HO_11 HO_13 HO_384001 BK383 HB hx395_0 hx395_1 hx396_0 hx396_1 hHeld ⊢
                                refine pure_ (i := 0) (N := some 91) (v := ?_) (a' := ?_) #[true, false, false, false, false, false, false, false, false, false, false] rfl rfl (any_of HT_.out (by kernel_rfl)) (fun _ _ _ h => h) (Or.inl ⟨by rfl, ?_⟩) ?_ ?_
                                rotate_left
                                · intro w'
                                  go_simp
                                  with_reducible rfl
                                rotate_left
                                · simp only [Act.put, List.setIfInBounds_toArray, List.set_cons_zero, List.set_cons_succ, i64_w, i32_w]
                                  rfl
                                refine pure_ (i := 1) (N := some 92) (v := ?_) (a' := ?_) #[true, true, false, false, false, false, false, false, false, false, false] rfl rfl (any_of HT_.out (by kernel_rfl)) (fun _ _ _ h => h) (Or.inl ⟨by rfl, ?_⟩) ?_ ?_
                                rotate_left
                                · intro w'
                                  go_simp
                                  with_reducible rfl
                                rotate_left
                                · simp only [Act.put, List.setIfInBounds_toArray, List.set_cons_zero, List.set_cons_succ, i64_w, i32_w]
                                  rfl
                                refine pure_ (i := 2) (N := some 93) (v := ?_) (a' := ?_) #[true, true, true, false, false, false, false, false, false, false, false] rfl rfl (any_of HT_.out (by kernel_rfl)) (fun _ _ _ h => h) (Or.inl ⟨by rfl, ?_⟩) ?_ ?_
                                rotate_left
                                · intro w'
                                  go_simp
                                  with_reducible rfl
                                rotate_left
                                · simp only [Act.put, List.setIfInBounds_toArray, List.set_cons_zero, List.set_cons_succ, i64_w, i32_w]
                                  rfl
                                refine pure_ (i := 3) (N := some 94) (v := ?_) (a' := ?_) #[true, true, true, true, false, false, false, false, false, false, false] rfl rfl (any_of HT_.out (by kernel_rfl)) (fun _ _ _ h => h) (Or.inl ⟨by rfl, ?_⟩) ?_ ?_
                                rotate_left
                                · intro w'
                                  go_simp
                                  with_reducible rfl
                                rotate_left
                                · simp only [Act.put, List.setIfInBounds_toArray, List.set_cons_zero, List.set_cons_succ, i64_w, i32_w]
                                  rfl
                                refine pure_ (i := 5) (N := some 96) (v := ?_) (a' := ?_) #[true, true, true, true, false, true, false, false, false, false, false] rfl rfl (any_of HT_.out (by kernel_rfl)) (fun _ _ _ h => h) (Or.inl ⟨by rfl, ?_⟩) ?_ ?_
                                rotate_left
                                · intro w'
                                  go_simp
                                  with_reducible rfl
                                rotate_left
                                · simp only [Act.put, List.setIfInBounds_toArray, List.set_cons_zero, List.set_cons_succ, i64_w, i32_w]
                                  rfl
                                refine pure_ (i := 6) (N := some 97) (v := ?_) (a' := ?_) #[true, true, true, true, false, true, true, false, false, false, false] rfl rfl (any_of HT_.out (by kernel_rfl)) (fun _ _ _ h => h) (Or.inl ⟨by rfl, ?_⟩) ?_ ?_
                                rotate_left
                                · intro w'
                                  go_simp
                                  with_reducible rfl
                                rotate_left
                                · simp only [Act.put, List.setIfInBounds_toArray, List.set_cons_zero, List.set_cons_succ, i64_w, i32_w]
                                  rfl
                                refine pure_ (i := 7) (N := some 98) (v := ?_) (a' := ?_) #[true, true, true, true, false, true, true, true, false, false, false] rfl rfl (any_of HT_.out (by kernel_rfl)) (fun _ _ _ h => h) (Or.inl ⟨by rfl, ?_⟩) ?_ ?_
                                rotate_left
                                · intro w'
                                  go_simp
                                  with_reducible rfl
                                rotate_left
                                · simp only [Act.put, List.setIfInBounds_toArray, List.set_cons_zero, List.set_cons_succ, i64_w, i32_w]
                                  rfl
                                refine pure_ (i := 8) (N := some 99) (v := ?_) (a' := ?_) #[true, true, true, true, false, true, true, true, true, false, false] rfl rfl (any_of HT_.out (by kernel_rfl)) (fun _ _ _ h => h) (Or.inl ⟨by rfl, ?_⟩) ?_ ?_
                                rotate_left
                                · intro w'
                                  go_simp
                                  with_reducible rfl
                                rotate_left
                                · simp only [Act.put, List.setIfInBounds_toArray, List.set_cons_zero, List.set_cons_succ, i64_w, i32_w]
                                  rfl
                                refine take_ (i := 4) (N := some 95) (v := ?_) (a' := ?_) #[true, true, true, true, true, true, true, true, true, false, false] rfl rfl (take_ofW HT_.out HW_.out (by kernel_rfl)) (fun _ _ _ h => h) (Or.inl ⟨by rfl, ?_⟩) hHeld ?_ ?_
                                rotate_left
                                · rintro w' ⟨s0, s1, s2, s3⟩
                                  go_simp
                                  with_reducible rfl
                                rotate_left
                                · simp only [Act.put, List.setIfInBounds_toArray, List.set_cons_zero, List.set_cons_succ, i64_w, i32_w]
                                  rfl
                                refine take_ (i := 9) (N := some 100) (v := ?_) (a' := ?_) #[true, true, true, true, true, true, true, true, true, true, false] rfl rfl (take_ofW HT_.out HW_.out (by kernel_rfl)) (fun _ _ _ h => h) (Or.inl ⟨by rfl, ?_⟩) hHeld ?_ ?_
                                rotate_left
                                · rintro w' ⟨s0, s1, s2, s3⟩
                                  go_simp
                                  with_reducible rfl
                                rotate_left
                                · simp only [Act.put, List.setIfInBounds_toArray, List.set_cons_zero, List.set_cons_succ, i64_w, i32_w]
                                  rfl
                                refine pure_ (i := 10) (N := some 101) (v := ?_) (a' := ?_) #[true, true, true, true, true, true, true, true, true, true, true] rfl rfl (any_of HT_.out (by kernel_rfl)) (fun _ _ _ h => h) (Or.inl ⟨by rfl, ?_⟩) ?_ ?_
                                rotate_left
                                · intro w'
                                  go_simp
                                  with_reducible rfl
                                rotate_left
                                · simp only [Act.put, List.setIfInBounds_toArray, List.set_cons_zero, List.set_cons_succ, i64_w, i32_w]
                                  rfl
                                refine done_ (done_of HT_.out (by kernel_rfl)) ?_
                                try go_wp2
                                go_roundg k3
                                case measure => have := HJ10.out; have := HK2.out; have := HK3.out; omega
                                case rel => exact ⟨(wrap64 (x15_3 + 1)), (wrap64 (x17_3 + 1)), (by first | rfl | (simp; done) | (simp [*]; done)), (by first | rfl | (simp; done) | (simp [*]; done)), H', ⟨by have := HJ10.out; have := HK2.out; have := HK3.out; omega⟩, ⟨by (with_reducible repeat (first | apply Kd.R_alloc | apply Kd.R_drewN | apply Kd.R_drew)); exact HO_11.out⟩, ⟨by (with_reducible repeat (first | apply Kd.R_alloc | apply Kd.R_drewN | apply Kd.R_drew)); exact HO_13.out⟩, ⟨by (with_reducible repeat (first | apply Kd.S_alloc | apply Kd.S_drewN | apply Kd.S_drew)); exact HO_384001.out⟩, ⟨by (with_reducible repeat (first | refine blk_drewN ?_ _ | refine blk_drew ?_ | refine blk_alloc ?_ _)); exact BK383.out⟩, ⟨by repeat (first | (with_reducible first | exact HB.out | apply below_alloc | apply pw_below_drewN | apply below_drew1 | refine below_set ?_ GE383.out) | exact HB.out)⟩⟩
                              · rw [if_neg c38] at H
                                have c38b0 : (((rd_T52 t387 x16_2).f0) == ((rd_T52 t391 x17_3).f0)) = false := beq_eq_false_iff_ne.mpr c38
                                have c38b1 : (((rd_T52 t387 x16_2).f0) != ((rd_T52 t391 x17_3).f0)) = true := bne_iff_ne.mpr c38
                                have H' := Aside0.mk H
                                clear H
                                obtain ⟨Ao41, co41, eo41⟩ := Kd.R_slice HO_13.out
                                subst eo41
                                try go_wp2
                                have n0_ := Aside0.mk (Kd.R_drew HO_11.out)
                                have n1_ := Aside0.mk (Kd.R_drew HO_13.out)
                                have n2_ := Aside0.mk (Kd.S_drew HO_384001.out)
                                have n3_ := Aside0.mk (blk_drew BK383.out)
                                have n4_ := Aside0.mk (below_drew1 HB.out)
                                clear HO_11
                                clear HO_13
                                clear HO_384001
                                clear BK383
                                clear HB
                                have HO_11 := n0_
                                have HO_13 := n1_
                                have HO_384001 := n2_
                                have BK383 := n3_
                                have HB := n4_
                                clear n0_ n1_ n2_ n3_ n4_
                                have p395 : 0 ≤ (x16_2 : Int) := of_decide_eq_true (by first | (with_reducible assumption) | assumption)
                                have q395 : x16_2 < (t387.length : Int) := of_decide_eq_true (by first | (with_reducible assumption) | assumption)
                                obtain ⟨ad395, e395, hx395_0, hx395_1⟩ := at_T52 (Kd.R_reads' HO_11.out).2.2 x16_2 p395 q395
                                cases e395
                                replace p395 := eq_true p395
                                replace q395 := eq_true q395
                                have p396 : 0 ≤ (x17_3 : Int) := of_decide_eq_true (by first | (with_reducible assumption) | assumption)
                                have q396 : x17_3 < (t391.length : Int) := of_decide_eq_true (by first | (with_reducible assumption) | assumption)
                                obtain ⟨ad396, e396, hx396_0, hx396_1⟩ := at_T52 (Kd.R_reads' HO_13.out).2.2 x17_3 p396 q396
                                cases e396
                                replace p396 := eq_true p396
                                replace q396 := eq_true q396
                                refine start_ (n := 11) (S := fun w' => w'.cell? (ad395.add ((x16_2).toNat * 2)) = some (.int .i64 ((rd_T52 t387 x16_2).f0)) ∧ w'.cell? ⟨(ad395.add ((x16_2).toNat * 2)).block, (ad395.add ((x16_2).toNat * 2)).off + 1, none⟩ = some (.int .i64 ((rd_T52 t387 x16_2).f1)) ∧ w'.cell? (ad396.add ((x17_3).toNat * 2)) = some (.int .i64 ((rd_T52 t391 x17_3).f0)) ∧ w'.cell? ⟨(ad396.add ((x17_3).toNat * 2)).block, (ad396.add ((x17_3).toNat * 2)).off + 1, none⟩ = some (.int .i64 ((rd_T52 t391 x17_3).f1))) (ds := []) #[false, false, false, false, false, false, false, false, false, false, false] (by kernel_rfl) rfl rfl ⟨hx395_0, hx395_1, hx396_0, hx396_1⟩ (fun hHeld => ?_); refine with_tabW tegulalaw21_LayoutBalance.tab16 tegulalaw21_LayoutBalance.bits16 (fun HT_ HW_ => ?_)
                                generalize wr.drew = w42 at HO_11 HO_13 HO_384001 BK383 HB hx395_0 hx395_1 hx396_0 hx396_1 hHeld ⊢
                                refine pure_ (i := 0) (N := some 91) (v := ?_) (a' := ?_) #[true, false, false, false, false, false, false, false, false, false, false] rfl rfl (any_of HT_.out (by kernel_rfl)) (fun _ _ _ h => h) (Or.inl ⟨by rfl, ?_⟩) ?_ ?_
                                rotate_left
                                · intro w'
                                  go_simp
                                  with_reducible rfl
                                rotate_left
                                · simp only [Act.put, List.setIfInBounds_toArray, List.set_cons_zero, List.set_cons_succ, i64_w, i32_w]
                                  rfl
                                refine pure_ (i := 1) (N := some 92) (v := ?_) (a' := ?_) #[true, true, false, false, false, false, false, false, false, false, false] rfl rfl (any_of HT_.out (by kernel_rfl)) (fun _ _ _ h => h) (Or.inl ⟨by rfl, ?_⟩) ?_ ?_
                                rotate_left
                                · intro w'
                                  go_simp
                                  with_reducible rfl
                                rotate_left
                                · simp only [Act.put, List.setIfInBounds_toArray, List.set_cons_zero, List.set_cons_succ, i64_w, i32_w]
                                  rfl
                                refine pure_ (i := 2) (N := some 93) (v := ?_) (a' := ?_) #[true, true, true, false, false, false, false, false, false, false, false] rfl rfl (any_of HT_.out (by kernel_rfl)) (fun _ _ _ h => h) (Or.inl ⟨by rfl, ?_⟩) ?_ ?_
                                rotate_left
                                · intro w'
                                  go_simp
                                  with_reducible rfl
                                rotate_left
                                · simp only [Act.put, List.setIfInBounds_toArray, List.set_cons_zero, List.set_cons_succ, i64_w, i32_w]
                                  rfl
                                refine pure_ (i := 3) (N := some 94) (v := ?_) (a' := ?_) #[true, true, true, true, false, false, false, false, false, false, false] rfl rfl (any_of HT_.out (by kernel_rfl)) (fun _ _ _ h => h) (Or.inl ⟨by rfl, ?_⟩) ?_ ?_
                                rotate_left
                                · intro w'
                                  go_simp
                                  with_reducible rfl
                                rotate_left
                                · simp only [Act.put, List.setIfInBounds_toArray, List.set_cons_zero, List.set_cons_succ, i64_w, i32_w]
                                  rfl
                                refine pure_ (i := 5) (N := some 96) (v := ?_) (a' := ?_) #[true, true, true, true, false, true, false, false, false, false, false] rfl rfl (any_of HT_.out (by kernel_rfl)) (fun _ _ _ h => h) (Or.inl ⟨by rfl, ?_⟩) ?_ ?_
                                rotate_left
                                · intro w'
                                  go_simp
                                  with_reducible rfl
                                rotate_left
                                · simp only [Act.put, List.setIfInBounds_toArray, List.set_cons_zero, List.set_cons_succ, i64_w, i32_w]
                                  rfl
                                refine pure_ (i := 6) (N := some 97) (v := ?_) (a' := ?_) #[true, true, true, true, false, true, true, false, false, false, false] rfl rfl (any_of HT_.out (by kernel_rfl)) (fun _ _ _ h => h) (Or.inl ⟨by rfl, ?_⟩) ?_ ?_
                                rotate_left
                                · intro w'
                                  go_simp
                                  with_reducible rfl
                                rotate_left
                                · simp only [Act.put, List.setIfInBounds_toArray, List.set_cons_zero, List.set_cons_succ, i64_w, i32_w]
                                  rfl
                                refine pure_ (i := 7) (N := some 98) (v := ?_) (a' := ?_) #[true, true, true, true, false, true, true, true, false, false, false] rfl rfl (any_of HT_.out (by kernel_rfl)) (fun _ _ _ h => h) (Or.inl ⟨by rfl, ?_⟩) ?_ ?_
                                rotate_left
                                · intro w'
                                  go_simp
                                  with_reducible rfl
                                rotate_left
                                · simp only [Act.put, List.setIfInBounds_toArray, List.set_cons_zero, List.set_cons_succ, i64_w, i32_w]
                                  rfl
                                refine pure_ (i := 8) (N := some 99) (v := ?_) (a' := ?_) #[true, true, true, true, false, true, true, true, true, false, false] rfl rfl (any_of HT_.out (by kernel_rfl)) (fun _ _ _ h => h) (Or.inl ⟨by rfl, ?_⟩) ?_ ?_
                                rotate_left
                                · intro w'
                                  go_simp
                                  with_reducible rfl
                                rotate_left
                                · simp only [Act.put, List.setIfInBounds_toArray, List.set_cons_zero, List.set_cons_succ, i64_w, i32_w]
                                  rfl
                                refine take_ (i := 4) (N := some 95) (v := ?_) (a' := ?_) #[true, true, true, true, true, true, true, true, true, false, false] rfl rfl (take_ofW HT_.out HW_.out (by kernel_rfl)) (fun _ _ _ h => h) (Or.inl ⟨by rfl, ?_⟩) hHeld ?_ ?_
                                rotate_left
                                · rintro w' ⟨s0, s1, s2, s3⟩
                                  go_simp
                                  with_reducible rfl
                                rotate_left
                                · simp only [Act.put, List.setIfInBounds_toArray, List.set_cons_zero, List.set_cons_succ, i64_w, i32_w]
                                  rfl
                                refine take_ (i := 9) (N := some 100) (v := ?_) (a' := ?_) #[true, true, true, true, true, true, true, true, true, true, false] rfl rfl (take_ofW HT_.out HW_.out (by kernel_rfl)) (fun _ _ _ h => h) (Or.inl ⟨by rfl, ?_⟩) hHeld ?_ ?_
                                rotate_left
                                · rintro w' ⟨s0, s1, s2, s3⟩
                                  go_simp
                                  with_reducible rfl
                                rotate_left
                                · simp only [Act.put, List.setIfInBounds_toArray, List.set_cons_zero, List.set_cons_succ, i64_w, i32_w]
                                  rfl
                                refine pure_ (i := 10) (N := some 101) (v := ?_) (a' := ?_) #[true, true, true, true, true, true, true, true, true, true, true] rfl rfl (any_of HT_.out (by kernel_rfl)) (fun _ _ _ h => h) (Or.inl ⟨by rfl, ?_⟩) ?_ ?_
                                rotate_left
                                · intro w'
                                  go_simp
                                  with_reducible rfl
                                rotate_left
                                · simp only [Act.put, List.setIfInBounds_toArray, List.set_cons_zero, List.set_cons_succ, i64_w, i32_w]
                                  rfl
                                refine done_ (done_of HT_.out (by kernel_rfl)) ?_
                                try go_wp2
                                go_roundg k3
                                case measure => have := HJ10.out; have := HK2.out; have := HK3.out; omega
                                case rel => exact ⟨(x15_3), (wrap64 (x17_3 + 1)), (by first | rfl | (simp; done) | (simp [*]; done)), (by first | rfl | (simp; done) | (simp [*]; done)), H', ⟨by have := HJ10.out; have := HK2.out; have := HK3.out; omega⟩, ⟨by (with_reducible repeat (first | apply Kd.R_alloc | apply Kd.R_drewN | apply Kd.R_drew)); exact HO_11.out⟩, ⟨by (with_reducible repeat (first | apply Kd.R_alloc | apply Kd.R_drewN | apply Kd.R_drew)); exact HO_13.out⟩, ⟨by (with_reducible repeat (first | apply Kd.S_alloc | apply Kd.S_drewN | apply Kd.S_drew)); exact HO_384001.out⟩, ⟨by (with_reducible repeat (first | refine blk_drewN ?_ _ | refine blk_drew ?_ | refine blk_alloc ?_ _)); exact BK383.out⟩, ⟨by repeat (first | (with_reducible first | exact HB.out | apply below_alloc | apply pw_below_drewN | apply below_drew1 | refine below_set ?_ GE383.out) | exact HB.out)⟩⟩
                            · rw [if_neg c37] at H
                              exact absurd H (by simp)
                          · rw [if_neg c36] at H
                            exact absurd H (by simp)
                        · rw [if_neg c35] at H
                          exact absurd H (by simp)
                      · rw [if_neg c34] at H
                        have c34b0 : decide (x17_3 < (t391.length : Int)) = false := decide_eq_false c34
                        clear c34
                        have H' := Aside0.mk H
                        clear H
                        obtain ⟨Ao43, co43, eo43⟩ := Kd.R_slice HO_13.out
                        subst eo43
                        go_wp2
                        go_roundg k3
                        case measure => have := HJ10.out; have := HK2.out; have := HK3.out; omega
                        case rel => exact ⟨(x15_3), (wrap64 (x16_2 + 1)), (by first | rfl | (simp; done) | (simp [*]; done)), (by first | rfl | (simp; done) | (simp [*]; done)), H', ⟨by have := HJ10.out; have := HK2.out; have := HK3.out; omega⟩, ⟨by (with_reducible repeat (first | apply Kd.R_alloc | apply Kd.R_drewN | apply Kd.R_drew)); exact HO_11.out⟩, ⟨by (with_reducible repeat (first | apply Kd.R_alloc | apply Kd.R_drewN | apply Kd.R_drew)); exact HO_13.out⟩, ⟨by (with_reducible repeat (first | apply Kd.S_alloc | apply Kd.S_drewN | apply Kd.S_drew)); exact HO_384001.out⟩, ⟨by (with_reducible repeat (first | refine blk_drewN ?_ _ | refine blk_drew ?_ | refine blk_alloc ?_ _)); exact BK383.out⟩, ⟨by repeat (first | (with_reducible first | exact HB.out | apply below_alloc | apply pw_below_drewN | apply below_drew1 | refine below_set ?_ GE383.out) | exact HB.out)⟩⟩
                · rw [if_neg c32] at H
                  have c32b0 : decide (x16_2 < (t387.length : Int)) = false := decide_eq_false c32
                  clear c32
                  by_cases c44 : t377 = 0
                  · rw [if_pos c44] at H
                    exact absurd H (by simp)
                  · rw [if_neg c44] at H
                    have c44b0 : (t377 == 0) = false := beq_eq_false_iff_ne.mpr c44
                    have c44b1 : (t377 != 0) = true := bne_iff_ne.mpr c44
                    by_cases c45 : (Int.tmod (wrap64 (a1)) t377) = (Int.tmod (wrap64 (a2)) t377)
                    · rw [if_pos c45] at H
                      have c45b0 : ((Int.tmod (wrap64 (a1)) t377) == (Int.tmod (wrap64 (a2)) t377)) = true := beq_iff_eq.mpr c45
                      have c45b1 : ((Int.tmod (wrap64 (a1)) t377) != (Int.tmod (wrap64 (a2)) t377)) = false := bne_eq_false_iff_eq.mpr c45
                      clear c45
                      obtain rfl := Option.some.inj H
                      obtain ⟨Ao46, co46, eo46⟩ := Kd.R_slice HO_11.out
                      subst eo46
                      try go_wp2
                      have n0_ := Aside0.mk (Kd.R_drew HO_11.out)
                      have n1_ := Aside0.mk (Kd.R_drew HO_13.out)
                      have n2_ := Aside0.mk (Kd.S_drew HO_384001.out)
                      have n3_ := Aside0.mk (blk_drew BK383.out)
                      have n4_ := Aside0.mk (below_drew1 HB.out)
                      clear HO_11
                      clear HO_13
                      clear HO_384001
                      clear BK383
                      clear HB
                      have HO_11 := n0_
                      have HO_13 := n1_
                      have HO_384001 := n2_
                      have BK383 := n3_
                      have HB := n4_
                      clear n0_ n1_ n2_ n3_ n4_
                      refine start_ (n := 13) (S := fun w' => w'.cell? ⟨gb383, 0, none⟩ = some (.int .i64 t377) ∧ w'.cell? ⟨gb383, 1, none⟩ = some (.slice Ao16 t378.length co16) ∧ w'.cell? ⟨gb383, 2, none⟩ = some (.int .i64 t381) ∧ w'.cell? ⟨gb383, 3, none⟩ = some (.int .i64 t382)) (ds := []) #[false, false, false, false, false, false, false, false, false, false, false, false, false] (by kernel_rfl) rfl rfl ⟨(blk_cell BK383.out 0).trans rfl, (blk_cell BK383.out 1).trans rfl, (blk_cell BK383.out 2).trans rfl, (blk_cell BK383.out 3).trans rfl⟩ (fun hHeld => ?_); refine with_tabW tegulalaw21_LayoutBalance.tab18 tegulalaw21_LayoutBalance.bits18 (fun HT_ HW_ => ?_)
                      generalize wr.drew = w47 at HO_11 HO_13 HO_384001 BK383 HB hHeld ⊢
                      refine pure_ (i := 0) (N := some 104) (v := ?_) (a' := ?_) #[true, false, false, false, false, false, false, false, false, false, false, false, false] rfl rfl (any_of HT_.out (by kernel_rfl)) (fun _ _ _ h => h) (Or.inl ⟨by rfl, ?_⟩) ?_ ?_
                      rotate_left
                      · intro w'
                        go_simp
                        with_reducible rfl
                      rotate_left
                      · simp only [Act.put, List.setIfInBounds_toArray, List.set_cons_zero, List.set_cons_succ, i64_w, i32_w]
                        rfl
                      refine pure_ (i := 1) (N := some 105) (v := ?_) (a' := ?_) #[true, true, false, false, false, false, false, false, false, false, false, false, false] rfl rfl (any_of HT_.out (by kernel_rfl)) (fun _ _ _ h => h) (Or.inl ⟨by rfl, ?_⟩) ?_ ?_
                      rotate_left
                      · intro w'
                        go_simp
                        with_reducible rfl
                      rotate_left
                      · simp only [Act.put, List.setIfInBounds_toArray, List.set_cons_zero, List.set_cons_succ, i64_w, i32_w]
                        rfl
                      refine pure_ (i := 2) (N := some 106) (v := ?_) (a' := ?_) #[true, true, true, false, false, false, false, false, false, false, false, false, false] rfl rfl (any_of HT_.out (by kernel_rfl)) (fun _ _ _ h => h) (Or.inl ⟨by rfl, ?_⟩) ?_ ?_
                      rotate_left
                      · intro w'
                        go_simp
                        with_reducible rfl
                      rotate_left
                      · simp only [Act.put, List.setIfInBounds_toArray, List.set_cons_zero, List.set_cons_succ, i64_w, i32_w]
                        rfl
                      refine pure_ (i := 3) (N := some 107) (v := ?_) (a' := ?_) #[true, true, true, true, false, false, false, false, false, false, false, false, false] rfl rfl (any_of HT_.out (by kernel_rfl)) (fun _ _ _ h => h) (Or.inl ⟨by rfl, ?_⟩) ?_ ?_
                      rotate_left
                      · intro w'
                        go_simp
                        with_reducible rfl
                      rotate_left
                      · simp only [Act.put, List.setIfInBounds_toArray, List.set_cons_zero, List.set_cons_succ, i64_w, i32_w]
                        rfl
                      refine pure_ (i := 6) (N := some 110) (v := ?_) (a' := ?_) #[true, true, true, true, false, false, true, false, false, false, false, false, false] rfl rfl (any_of HT_.out (by kernel_rfl)) (fun _ _ _ h => h) (Or.inl ⟨by rfl, ?_⟩) ?_ ?_
                      rotate_left
                      · intro w'
                        go_simp
                        with_reducible rfl
                      rotate_left
                      · simp only [Act.put, List.setIfInBounds_toArray, List.set_cons_zero, List.set_cons_succ, i64_w, i32_w]
                        rfl
                      refine pure_ (i := 7) (N := some 111) (v := ?_) (a' := ?_) #[true, true, true, true, false, false, true, true, false, false, false, false, false] rfl rfl (any_of HT_.out (by kernel_rfl)) (fun _ _ _ h => h) (Or.inl ⟨by rfl, ?_⟩) ?_ ?_
                      rotate_left
                      · intro w'
                        go_simp
                        with_reducible rfl
                      rotate_left
                      · simp only [Act.put, List.setIfInBounds_toArray, List.set_cons_zero, List.set_cons_succ, i64_w, i32_w]
                        rfl
                      refine pure_ (i := 8) (N := some 112) (v := ?_) (a' := ?_) #[true, true, true, true, false, false, true, true, true, false, false, false, false] rfl rfl (any_of HT_.out (by kernel_rfl)) (fun _ _ _ h => h) (Or.inl ⟨by rfl, ?_⟩) ?_ ?_
                      rotate_left
                      · intro w'
                        go_simp
                        with_reducible rfl
                      rotate_left
                      · simp only [Act.put, List.setIfInBounds_toArray, List.set_cons_zero, List.set_cons_succ, i64_w, i32_w]
                        rfl
                      refine pure_ (i := 9) (N := some 113) (v := ?_) (a' := ?_) #[true, true, true, true, false, false, true, true, true, true, false, false, false] rfl rfl (any_of HT_.out (by kernel_rfl)) (fun _ _ _ h => h) (Or.inl ⟨by rfl, ?_⟩) ?_ ?_
                      rotate_left
                      · intro w'
                        go_simp
                        with_reducible rfl
                      rotate_left
                      · simp only [Act.put, List.setIfInBounds_toArray, List.set_cons_zero, List.set_cons_succ, i64_w, i32_w]
                        rfl
                      refine take_ (i := 4) (N := some 108) (v := ?_) (a' := ?_) #[true, true, true, true, true, false, true, true, true, true, false, false, false] rfl rfl (take_ofW HT_.out HW_.out (by kernel_rfl)) (fun _ _ _ h => h) (Or.inl ⟨by rfl, ?_⟩) hHeld ?_ ?_
                      rotate_left
                      · rintro w' ⟨s0, s1, s2, s3⟩
                        go_simp
                        with_reducible rfl
                      rotate_left
                      · simp only [Act.put, List.setIfInBounds_toArray, List.set_cons_zero, List.set_cons_succ, i64_w, i32_w]
                        rfl
                      refine pure_ (i := 5) (N := some 109) (v := ?_) (a' := ?_) #[true, true, true, true, true, true, true, true, true, true, false, false, false] rfl rfl (any_of HT_.out (by kernel_rfl)) (fun _ _ _ h => h) (Or.inl ⟨by rfl, ?_⟩) ?_ ?_
                      rotate_left
                      · intro w'
                        go_simp
                        with_reducible rfl
                      rotate_left
                      · simp only [Act.put, List.setIfInBounds_toArray, List.set_cons_zero, List.set_cons_succ, i64_w, i32_w]
                        rfl
                      refine take_ (i := 10) (N := some 114) (v := ?_) (a' := ?_) #[true, true, true, true, true, true, true, true, true, true, true, false, false] rfl rfl (take_ofW HT_.out HW_.out (by kernel_rfl)) (fun _ _ _ h => h) (Or.inl ⟨by rfl, ?_⟩) hHeld ?_ ?_
                      rotate_left
                      · rintro w' ⟨s0, s1, s2, s3⟩
                        go_simp
                        with_reducible rfl
                      rotate_left
                      · simp only [Act.put, List.setIfInBounds_toArray, List.set_cons_zero, List.set_cons_succ, i64_w, i32_w]
                        rfl
                      refine pure_ (i := 11) (N := some 115) (v := ?_) (a' := ?_) #[true, true, true, true, true, true, true, true, true, true, true, true, false] rfl rfl (any_of HT_.out (by kernel_rfl)) (fun _ _ _ h => h) (Or.inl ⟨by rfl, ?_⟩) ?_ ?_
                      rotate_left
                      · intro w'
                        go_simp
                        with_reducible rfl
                      rotate_left
                      · simp only [Act.put, List.setIfInBounds_toArray, List.set_cons_zero, List.set_cons_succ, i64_w, i32_w]
                        rfl
                      refine pure_ (i := 12) (N := some 116) (v := ?_) (a' := ?_) #[true, true, true, true, true, true, true, true, true, true, true, true, true] rfl rfl (any_of HT_.out (by kernel_rfl)) (fun _ _ _ h => h) (Or.inl ⟨by rfl, ?_⟩) ?_ ?_
                      rotate_left
                      · intro w'
                        go_simp
                        with_reducible rfl
                      rotate_left
                      · simp only [Act.put, List.setIfInBounds_toArray, List.set_cons_zero, List.set_cons_succ, i64_w, i32_w]
                        rfl
                      refine done_ (done_of HT_.out (by kernel_rfl)) ?_
                      have hcz48_0 : w47.cell? ⟨gb383, 0, none⟩ = some (.int .i64 t377) := (blk_cell BK383.out 0).trans rfl
                      have hcz48_1 : w47.cell? ⟨gb383, 1, none⟩ = some (.slice Ao16 t378.length co16) := (blk_cell BK383.out 1).trans rfl
                      have hcz48_2 : w47.cell? ⟨gb383, 2, none⟩ = some (.int .i64 t381) := (blk_cell BK383.out 2).trans rfl
                      have hcz48_3 : w47.cell? ⟨gb383, 3, none⟩ = some (.int .i64 t382) := (blk_cell BK383.out 3).trans rfl
                      have hfz48_0 := blk_frozen BK383.out 0
                      have hfz48_1 := blk_frozen BK383.out 1
                      have hfz48_2 := blk_frozen BK383.out 2
                      have hfz48_3 := blk_frozen BK383.out 3
                      try go_wp2
                      go_ret
                      exact ⟨by first | rfl | (simp [errW_none, errW_some] <;> rfl) | (simp [*, errW_none, errW_some] <;> rfl), by repeat (first | (with_reducible first | exact HB.out | apply below_alloc | apply pw_below_drewN | apply below_drew1 | refine below_set ?_ GE383.out) | exact HB.out)⟩
                    · rw [if_neg c45] at H
                      have c45b0 : ((Int.tmod (wrap64 (a1)) t377) == (Int.tmod (wrap64 (a2)) t377)) = false := beq_eq_false_iff_ne.mpr c45
                      have c45b1 : ((Int.tmod (wrap64 (a1)) t377) != (Int.tmod (wrap64 (a2)) t377)) = true := bne_iff_ne.mpr c45
                      obtain rfl := Option.some.inj H
                      obtain ⟨Ao49, co49, eo49⟩ := Kd.R_slice HO_11.out
                      subst eo49
                      try go_wp2
                      have n0_ := Aside0.mk (Kd.R_drew HO_11.out)
                      have n1_ := Aside0.mk (Kd.R_drew HO_13.out)
                      have n2_ := Aside0.mk (Kd.S_drew HO_384001.out)
                      have n3_ := Aside0.mk (blk_drew BK383.out)
                      have n4_ := Aside0.mk (below_drew1 HB.out)
                      clear HO_11
                      clear HO_13
                      clear HO_384001
                      clear BK383
                      clear HB
                      have HO_11 := n0_
                      have HO_13 := n1_
                      have HO_384001 := n2_
                      have BK383 := n3_
                      have HB := n4_
                      clear n0_ n1_ n2_ n3_ n4_
                      refine start_ (n := 13) (S := fun w' => w'.cell? ⟨gb383, 0, none⟩ = some (.int .i64 t377) ∧ w'.cell? ⟨gb383, 1, none⟩ = some (.slice Ao16 t378.length co16) ∧ w'.cell? ⟨gb383, 2, none⟩ = some (.int .i64 t381) ∧ w'.cell? ⟨gb383, 3, none⟩ = some (.int .i64 t382)) (ds := []) #[false, false, false, false, false, false, false, false, false, false, false, false, false] (by kernel_rfl) rfl rfl ⟨(blk_cell BK383.out 0).trans rfl, (blk_cell BK383.out 1).trans rfl, (blk_cell BK383.out 2).trans rfl, (blk_cell BK383.out 3).trans rfl⟩ (fun hHeld => ?_); refine with_tabW tegulalaw21_LayoutBalance.tab18 tegulalaw21_LayoutBalance.bits18 (fun HT_ HW_ => ?_)
                      generalize wr.drew = w50 at HO_11 HO_13 HO_384001 BK383 HB hHeld ⊢
                      refine pure_ (i := 0) (N := some 104) (v := ?_) (a' := ?_) #[true, false, false, false, false, false, false, false, false, false, false, false, false] rfl rfl (any_of HT_.out (by kernel_rfl)) (fun _ _ _ h => h) (Or.inl ⟨by rfl, ?_⟩) ?_ ?_
                      rotate_left
                      · intro w'
                        go_simp
                        with_reducible rfl
                      rotate_left
                      · simp only [Act.put, List.setIfInBounds_toArray, List.set_cons_zero, List.set_cons_succ, i64_w, i32_w]
                        rfl
                      refine pure_ (i := 1) (N := some 105) (v := ?_) (a' := ?_) #[true, true, false, false, false, false, false, false, false, false, false, false, false] rfl rfl (any_of HT_.out (by kernel_rfl)) (fun _ _ _ h => h) (Or.inl ⟨by rfl, ?_⟩) ?_ ?_
                      rotate_left
                      · intro w'
                        go_simp
                        with_reducible rfl
                      rotate_left
                      · simp only [Act.put, List.setIfInBounds_toArray, List.set_cons_zero, List.set_cons_succ, i64_w, i32_w]
                        rfl
                      refine pure_ (i := 2) (N := some 106) (v := ?_) (a' := ?_) #[true, true, true, false, false, false, false, false, false, false, false, false, false] rfl rfl (any_of HT_.out (by kernel_rfl)) (fun _ _ _ h => h) (Or.inl ⟨by rfl, ?_⟩) ?_ ?_
                      rotate_left
                      · intro w'
                        go_simp
                        with_reducible rfl
                      rotate_left
                      · simp only [Act.put, List.setIfInBounds_toArray, List.set_cons_zero, List.set_cons_succ, i64_w, i32_w]
                        rfl
                      refine pure_ (i := 3) (N := some 107) (v := ?_) (a' := ?_) #[true, true, true, true, false, false, false, false, false, false, false, false, false] rfl rfl (any_of HT_.out (by kernel_rfl)) (fun _ _ _ h => h) (Or.inl ⟨by rfl, ?_⟩) ?_ ?_
                      rotate_left
                      · intro w'
                        go_simp
                        with_reducible rfl
                      rotate_left
                      · simp only [Act.put, List.setIfInBounds_toArray, List.set_cons_zero, List.set_cons_succ, i64_w, i32_w]
                        rfl
                      refine pure_ (i := 6) (N := some 110) (v := ?_) (a' := ?_) #[true, true, true, true, false, false, true, false, false, false, false, false, false] rfl rfl (any_of HT_.out (by kernel_rfl)) (fun _ _ _ h => h) (Or.inl ⟨by rfl, ?_⟩) ?_ ?_
                      rotate_left
                      · intro w'
                        go_simp
                        with_reducible rfl
                      rotate_left
                      · simp only [Act.put, List.setIfInBounds_toArray, List.set_cons_zero, List.set_cons_succ, i64_w, i32_w]
                        rfl
                      refine pure_ (i := 7) (N := some 111) (v := ?_) (a' := ?_) #[true, true, true, true, false, false, true, true, false, false, false, false, false] rfl rfl (any_of HT_.out (by kernel_rfl)) (fun _ _ _ h => h) (Or.inl ⟨by rfl, ?_⟩) ?_ ?_
                      rotate_left
                      · intro w'
                        go_simp
                        with_reducible rfl
                      rotate_left
                      · simp only [Act.put, List.setIfInBounds_toArray, List.set_cons_zero, List.set_cons_succ, i64_w, i32_w]
                        rfl
                      refine pure_ (i := 8) (N := some 112) (v := ?_) (a' := ?_) #[true, true, true, true, false, false, true, true, true, false, false, false, false] rfl rfl (any_of HT_.out (by kernel_rfl)) (fun _ _ _ h => h) (Or.inl ⟨by rfl, ?_⟩) ?_ ?_
                      rotate_left
                      · intro w'
                        go_simp
                        with_reducible rfl
                      rotate_left
                      · simp only [Act.put, List.setIfInBounds_toArray, List.set_cons_zero, List.set_cons_succ, i64_w, i32_w]
                        rfl
                      refine pure_ (i := 9) (N := some 113) (v := ?_) (a' := ?_) #[true, true, true, true, false, false, true, true, true, true, false, false, false] rfl rfl (any_of HT_.out (by kernel_rfl)) (fun _ _ _ h => h) (Or.inl ⟨by rfl, ?_⟩) ?_ ?_
                      rotate_left
                      · intro w'
                        go_simp
                        with_reducible rfl
                      rotate_left
                      · simp only [Act.put, List.setIfInBounds_toArray, List.set_cons_zero, List.set_cons_succ, i64_w, i32_w]
                        rfl
                      refine take_ (i := 4) (N := some 108) (v := ?_) (a' := ?_) #[true, true, true, true, true, false, true, true, true, true, false, false, false] rfl rfl (take_ofW HT_.out HW_.out (by kernel_rfl)) (fun _ _ _ h => h) (Or.inl ⟨by rfl, ?_⟩) hHeld ?_ ?_
                      rotate_left
                      · rintro w' ⟨s0, s1, s2, s3⟩
                        go_simp
                        with_reducible rfl
                      rotate_left
                      · simp only [Act.put, List.setIfInBounds_toArray, List.set_cons_zero, List.set_cons_succ, i64_w, i32_w]
                        rfl
                      refine pure_ (i := 5) (N := some 109) (v := ?_) (a' := ?_) #[true, true, true, true, true, true, true, true, true, true, false, false, false] rfl rfl (any_of HT_.out (by kernel_rfl)) (fun _ _ _ h => h) (Or.inl ⟨by rfl, ?_⟩) ?_ ?_
                      rotate_left
                      · intro w'
                        go_simp
                        with_reducible rfl
                      rotate_left
                      · simp only [Act.put, List.setIfInBounds_toArray, List.set_cons_zero, List.set_cons_succ, i64_w, i32_w]
                        rfl
                      refine take_ (i := 10) (N := some 114) (v := ?_) (a' := ?_) #[true, true, true, true, true, true, true, true, true, true, true, false, false] rfl rfl (take_ofW HT_.out HW_.out (by kernel_rfl)) (fun _ _ _ h => h) (Or.inl ⟨by rfl, ?_⟩) hHeld ?_ ?_
                      rotate_left
                      · rintro w' ⟨s0, s1, s2, s3⟩
                        go_simp
                        with_reducible rfl
                      rotate_left
                      · simp only [Act.put, List.setIfInBounds_toArray, List.set_cons_zero, List.set_cons_succ, i64_w, i32_w]
                        rfl
                      refine pure_ (i := 11) (N := some 115) (v := ?_) (a' := ?_) #[true, true, true, true, true, true, true, true, true, true, true, true, false] rfl rfl (any_of HT_.out (by kernel_rfl)) (fun _ _ _ h => h) (Or.inl ⟨by rfl, ?_⟩) ?_ ?_
                      rotate_left
                      · intro w'
                        go_simp
                        with_reducible rfl
                      rotate_left
                      · simp only [Act.put, List.setIfInBounds_toArray, List.set_cons_zero, List.set_cons_succ, i64_w, i32_w]
                        rfl
                      refine pure_ (i := 12) (N := some 116) (v := ?_) (a' := ?_) #[true, true, true, true, true, true, true, true, true, true, true, true, true] rfl rfl (any_of HT_.out (by kernel_rfl)) (fun _ _ _ h => h) (Or.inl ⟨by rfl, ?_⟩) ?_ ?_
                      rotate_left
                      · intro w'
                        go_simp
                        with_reducible rfl
                      rotate_left
                      · simp only [Act.put, List.setIfInBounds_toArray, List.set_cons_zero, List.set_cons_succ, i64_w, i32_w]
                        rfl
                      refine done_ (done_of HT_.out (by kernel_rfl)) ?_
                      have hcz51_0 : w50.cell? ⟨gb383, 0, none⟩ = some (.int .i64 t377) := (blk_cell BK383.out 0).trans rfl
                      have hcz51_1 : w50.cell? ⟨gb383, 1, none⟩ = some (.slice Ao16 t378.length co16) := (blk_cell BK383.out 1).trans rfl
                      have hcz51_2 : w50.cell? ⟨gb383, 2, none⟩ = some (.int .i64 t381) := (blk_cell BK383.out 2).trans rfl
                      have hcz51_3 : w50.cell? ⟨gb383, 3, none⟩ = some (.int .i64 t382) := (blk_cell BK383.out 3).trans rfl
                      have hfz51_0 := blk_frozen BK383.out 0
                      have hfz51_1 := blk_frozen BK383.out 1
                      have hfz51_2 := blk_frozen BK383.out 2
                      have hfz51_3 := blk_frozen BK383.out 3
                      try go_wp2
                      go_ret
                      exact ⟨by first | rfl | (simp [errW_none, errW_some] <;> rfl) | (simp [*, errW_none, errW_some] <;> rfl), by repeat (first | (with_reducible first | exact HB.out | apply below_alloc | apply pw_below_drewN | apply below_drew1 | refine below_set ?_ GE383.out) | exact HB.out)⟩
  · replace c5 := Bool.eq_false_iff.mpr c5
    subst c5
    have H1 : (some false) = some r := by rw [if_neg (show ¬ (false = true) by decide)] at H; exact H
    clear H
    have H := H1
    clear H1
    obtain rfl := Option.some.inj H
    go_enter Try.func9, Try.ntmps9
    go_wp2_with (first | ((with_reducible refine gate_callee (f := 13) rfl ?_); refine goesL_ (some 18) rfl rfl Try.func13 (by kernel_rfl) rfl #[] rfl (by (try simp only [List.map_toArray, List.map_cons, List.map_nil]); first | done | rfl | (simp only [List.length_drop, List.length_take]; rfl)) ?_; (with_reducible refine (tegulalaw21_awake.calls  false _ A4.out).mono ?_); rintro e w52 ⟨rfl, hb⟩; refine ⟨_, rfl, ?_⟩; have n0_ := Aside0.mk (below_step (by repeat (first | (with_reducible first | exact HB.out | apply below_alloc | apply pw_below_drewN | apply below_drew1) | exact HB.out)) hb); clear HB; have HB := n0_; clear n0_; (try clear hb); (try clear hb2); (try clear hk); (try clear hi)))
    go_ret
    exact ⟨by first | rfl | (simp [errW_none, errW_some] <;> rfl) | (simp [*, errW_none, errW_some] <;> rfl), by repeat (first | (with_reducible first | exact HB.out | apply below_alloc | apply pw_below_drewN | apply below_drew1) | exact HB.out)⟩

/-- THE ONE PURE STATEMENT of tegulalaw21_LayoutBalance: yours. -/
def tegulalaw21_LayoutBalance.Pure : Prop := ∀ (a0 : Int) (a1 : Int) (a2 : Int), (Lit.int .u16 a0).wf = true → (Lit.int .u8 a1).wf = true → (Lit.int .u8 a2).wf = true → ∃ k, tegulalaw21_LayoutBalance.f k a0 a1 a2 = some true
theorem tegulalaw21_LayoutBalance.walk (P : tegulalaw21_LayoutBalance.Pure) (a0 : Int) (a1 : Int) (a2 : Int) (w : World) (w0 : (Lit.int .u16 a0).wf = true) (w1 : (Lit.int .u8 a1).wf = true) (w2 : (Lit.int .u8 a2).wf = true) :
    Calls Try.prog 9 #[.int .u16 a0, .int .u8 a1, .int .u8 a2] w fun e w' => e = .returned (.bool true) ∧ Below w.heap.size w w' := by
  obtain ⟨k, h⟩ := P a0 a1 a2 w0 w1 w2
  refine (tegulalaw21_LayoutBalance.calls k a0 a1 a2 true w h).mono ?_
  rintro e w' ⟨rfl, hd⟩
  exact ⟨rfl, hd⟩

end Go.Proofs.Ytebnladkogkpfaa.Q
