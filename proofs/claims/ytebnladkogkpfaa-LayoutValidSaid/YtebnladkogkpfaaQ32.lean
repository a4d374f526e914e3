-- Written by a program of this session (wip/tools/drv.py) for this claim: what the Go functions do, as Lean functions, and the walks.
import Derived.Test.YtebnladkogkpfaaQ0
import Derived.Test.YtebnladkogkpfaaG15
import Derived.Test.YtebnladkogkpfaaQ13
import Derived.Test.YtebnladkogkpfaaG13
import Derived.Test.YtebnladkogkpfaaQ19
import Derived.Test.YtebnladkogkpfaaQ23
import Derived.Test.YtebnladkogkpfaaQ29
import Derived.Test.YtebnladkogkpfaaQ31
namespace Go.Proofs.Ytebnladkogkpfaa.Q
open Go.RowKit Go.Proofs.YtebnladkogkpfaaW.PrintWords Go.Proofs.YtebnladkogkpfaaW.PrintLast Go.Proofs.YtebnladkogkpfaaW.PrintMore
attribute [local go_sem] max2_int min2_int max_two min_two max_three min_three max_four min_four   -- for this text's walks alone
set_option linter.unusedVariables false
set_option linter.unusedSimpArgs false

/-! ### tegulalaw21_LayoutValid: function 7 -/
def tegulalaw21_LayoutValid.f (k : Nat) (a0_0 : Int) (l0_1 : List (List Int)) (a0_2 : Int) (a0_3 : Int) : Option (Bool) := (tegulalaw21_awake.f).bind fun t336 => (if t336 = true then ((tegulalaw21_few.f k a0_0 l0_1 a0_2 a0_3).bind fun t337 => (if t337 = true then ((layout_Valid.f a0_0 l0_1 a0_2 a0_3).bind fun t338 => ((tegularef21_Valid.f a0_0 l0_1 a0_2 a0_3).bind fun t339 => (if (t338 != t339) = true then (some false) else ((tegularef21_Valid.f a0_0 l0_1 a0_2 a0_3).bind fun t340 => (if t340 = true then ((layout_Width.f a0_0 l0_1 a0_2 a0_3).bind fun t346 => ((tegularef21_Width.f a0_0 l0_1 a0_2 a0_3).bind fun t347 => (if t346 = t347 then ((layout_Data.f a0_0 l0_1 a0_2 a0_3).bind fun t348 => ((tegularef21_Width.f a0_0 l0_1 a0_2 a0_3).bind fun t349 => (if t348 = (wrap64 (t349 - 3)) then ((layout_Groups.f a0_0 l0_1 a0_2 a0_3).bind fun t350 => ((tegularef21_Groups.f a0_0 l0_1 a0_2 a0_3).bind fun t351 => (if t350 = t351 then ((layout_Slots.f a0_0 l0_1 a0_2 a0_3).bind fun t352 => ((tegularef21_Slots.f a0_0 l0_1 a0_2 a0_3).bind fun t353 => (if t352 = t353 then ((layout_Blocks.f a0_0 l0_1 a0_2 a0_3).bind fun t354 => ((tegularef21_Blocks.f a0_0 l0_1 a0_2 a0_3).bind fun t355 => (some (t354 == t355)))) else (some false)))) else (some false)))) else (some false)))) else (some false)))) else ((layout_Width.f a0_0 l0_1 a0_2 a0_3).bind fun t341 => (if t341 = 0 then ((layout_Data.f a0_0 l0_1 a0_2 a0_3).bind fun t342 => (if t342 = 0 then ((layout_Groups.f a0_0 l0_1 a0_2 a0_3).bind fun t343 => (if t343 = 0 then ((layout_Slots.f a0_0 l0_1 a0_2 a0_3).bind fun t344 => (if t344 = 0 then ((layout_Blocks.f a0_0 l0_1 a0_2 a0_3).bind fun t345 => (some (t345 == 0))) else (some false))) else (some false))) else (some false))) else (some false)))))))) else (some true))) else (some false))
theorem tegulalaw21_LayoutValid.mono : ∀ a0 a1 a2 a3 k, LeO (tegulalaw21_LayoutValid.f k a0 a1 a2 a3) (tegulalaw21_LayoutValid.f (k + 1) a0 a1 a2 a3) := by
  intro a0 a1 a2 a3 k
  unfold tegulalaw21_LayoutValid.f
  repeat' first
      | (with_reducible exact tegulalaw21_few.mono _ _ _ _ _)
      | (with_reducible exact LeO.refl _)
      | (with_reducible exact LeO.none _)
      | (with_reducible refine LeO.ite ?_ ?_)
      | (with_reducible refine LeO.bind ?_ (fun _ => ?_))
      | exact tegulalaw21_few.mono _ _ _ _ _
      | exact LeO.none _
      | refine LeO.ite ?_ ?_
      | refine LeO.bind ?_ (fun _ => ?_)
def tegulalaw21_LayoutValid.T9 : Bool × List (List Nat × List Nat) := (true, [([], []), ([0], [0]), ([], []), ([2, 1], [2]), ([1, 3], [1, 3]), ([4, 3], [4]), ([5], [5]), ([6, 5, 5], [5, 6]), ([5], [5]), ([8, 7, 5], [5, 8]), ([9, 5], [5, 9]), ([7, 10, 5], [5, 7, 10]), ([5, 11], [5, 11]), ([12, 9], [12]), ([13], [13]), ([14, 13, 13], [13, 14]), ([13], [13]), ([16, 15, 13], [13, 16]), ([15, 17, 13], [13, 15, 17]), ([13, 18], [13, 18]), ([19, 17], [19]), ([20], [20]), ([21, 20, 20], [20, 21]), ([20], [20]), ([23, 22, 20], [20, 23]), ([22, 24, 20], [20, 22, 24]), ([20, 25], [20, 25]), ([26, 24], [26]), ([27], [27]), ([28, 27, 27], [27, 28]), ([27], [27]), ([30, 29, 27], [27, 30]), ([29, 31, 27], [27, 29, 31]), ([27, 32], [27, 32]), ([33, 31, 0, 1, 2, 3, 4, 5, 6, 7, 8, 9, 10, 11, 12, 13, 14, 15, 16, 17, 18, 19, 20, 21, 22, 23, 24, 25, 26, 27, 28, 29, 30, 31, 32, 33], [33])])
def tegulalaw21_LayoutValid.B9 : List Nat := [0, 1, 0, 7, 15, 31, 63, 127, 63, 511, 1023, 2047, 4095, 8191, 16383, 32767, 16383, 131071, 262143, 524287, 1048575, 2097151, 4194303, 2097151, 16777215, 33554431, 67108863, 134217727, 268435455, 536870911, 268435455, 2147483647, 4294967295, 8589934591, 17179869183]
theorem tegulalaw21_LayoutValid.tab9 : rtab .any (opsOf Try.f7 9) = tegulalaw21_LayoutValid.T9 := by kernel_rfl
theorem tegulalaw21_LayoutValid.bits9 : waitsOk tegulalaw21_LayoutValid.T9.2 tegulalaw21_LayoutValid.B9 = true := by kernel_rfl
set_option maxHeartbeats 8000000 in
set_option maxRecDepth 100000 in
theorem tegulalaw21_LayoutValid.calls (k : Nat) (a0_0 : Int) (A0_1 : Option Addr) (c0_1 : Nat) (l0_1 : List (List Int)) (a0_2 : Int) (a0_3 : Int) (r : Bool) (hrt : r = true) (w : World) (hr0_1 : Kd.C (Kd.slice 3 (Kd.int .i64)) w A0_1 l0_1.length l0_1) (hc0_1 : l0_1.length ≤ c0_1) (h : tegulalaw21_LayoutValid.f k a0_0 l0_1 a0_2 a0_3 = some r) :
    Calls Try.prog 7 #[.agg #[.int .i64 a0_0, .slice A0_1 l0_1.length c0_1, .int .i64 a0_2, .int .i64 a0_3]] w fun e w' => e = .returned (.bool r) ∧ Below w.heap.size w w' := by
  have hu28 := Try.underlying28
  have HR0_1 := Aside0.mk hr0_1
  have HC0_1 := Aside0.mk hc0_1
  clear hr0_1 hc0_1
  have HB := Aside0.mk (Below.refl w.heap.size w)
  have H : ((tegulalaw21_awake.f).bind fun t336 => (if t336 = true then ((tegulalaw21_few.f k a0_0 l0_1 a0_2 a0_3).bind fun t337 => (if t337 = true then ((layout_Valid.f a0_0 l0_1 a0_2 a0_3).bind fun t338 => ((tegularef21_Valid.f a0_0 l0_1 a0_2 a0_3).bind fun t339 => (if (t338 != t339) = true then (some false) else ((tegularef21_Valid.f a0_0 l0_1 a0_2 a0_3).bind fun t340 => (if t340 = true then ((layout_Width.f a0_0 l0_1 a0_2 a0_3).bind fun t346 => ((tegularef21_Width.f a0_0 l0_1 a0_2 a0_3).bind fun t347 => (if t346 = t347 then ((layout_Data.f a0_0 l0_1 a0_2 a0_3).bind fun t348 => ((tegularef21_Width.f a0_0 l0_1 a0_2 a0_3).bind fun t349 => (if t348 = (wrap64 (t349 - 3)) then ((layout_Groups.f a0_0 l0_1 a0_2 a0_3).bind fun t350 => ((tegularef21_Groups.f a0_0 l0_1 a0_2 a0_3).bind fun t351 => (if t350 = t351 then ((layout_Slots.f a0_0 l0_1 a0_2 a0_3).bind fun t352 => ((tegularef21_Slots.f a0_0 l0_1 a0_2 a0_3).bind fun t353 => (if t352 = t353 then ((layout_Blocks.f a0_0 l0_1 a0_2 a0_3).bind fun t354 => ((tegularef21_Blocks.f a0_0 l0_1 a0_2 a0_3).bind fun t355 => (some (t354 == t355)))) else (some false)))) else (some false)))) else (some false)))) else (some false)))) else ((layout_Width.f a0_0 l0_1 a0_2 a0_3).bind fun t341 => (if t341 = 0 then ((layout_Data.f a0_0 l0_1 a0_2 a0_3).bind fun t342 => (if t342 = 0 then ((layout_Groups.f a0_0 l0_1 a0_2 a0_3).bind fun t343 => (if t343 = 0 then ((layout_Slots.f a0_0 l0_1 a0_2 a0_3).bind fun t344 => (if t344 = 0 then ((layout_Blocks.f a0_0 l0_1 a0_2 a0_3).bind fun t345 => (some (t345 == 0))) else (some false))) else (some false))) else (some false))) else (some false)))))))) else (some true))) else (some false))) = some r := h
  clear h
  replace H := Option.bind_eq_some_iff.mp H
  obtain ⟨t336, A20, H⟩ := H
  replace H : (if t336 = true then ((tegulalaw21_few.f k a0_0 l0_1 a0_2 a0_3).bind fun t337 => (if t337 = true then ((layout_Valid.f a0_0 l0_1 a0_2 a0_3).bind fun t338 => ((tegularef21_Valid.f a0_0 l0_1 a0_2 a0_3).bind fun t339 => (if (t338 != t339) = true then (some false) else ((tegularef21_Valid.f a0_0 l0_1 a0_2 a0_3).bind fun t340 => (if t340 = true then ((layout_Width.f a0_0 l0_1 a0_2 a0_3).bind fun t346 => ((tegularef21_Width.f a0_0 l0_1 a0_2 a0_3).bind fun t347 => (if t346 = t347 then ((layout_Data.f a0_0 l0_1 a0_2 a0_3).bind fun t348 => ((tegularef21_Width.f a0_0 l0_1 a0_2 a0_3).bind fun t349 => (if t348 = (wrap64 (t349 - 3)) then ((layout_Groups.f a0_0 l0_1 a0_2 a0_3).bind fun t350 => ((tegularef21_Groups.f a0_0 l0_1 a0_2 a0_3).bind fun t351 => (if t350 = t351 then ((layout_Slots.f a0_0 l0_1 a0_2 a0_3).bind fun t352 => ((tegularef21_Slots.f a0_0 l0_1 a0_2 a0_3).bind fun t353 => (if t352 = t353 then ((layout_Blocks.f a0_0 l0_1 a0_2 a0_3).bind fun t354 => ((tegularef21_Blocks.f a0_0 l0_1 a0_2 a0_3).bind fun t355 => (some (t354 == t355)))) else (some false)))) else (some false)))) else (some false)))) else (some false)))) else ((layout_Width.f a0_0 l0_1 a0_2 a0_3).bind fun t341 => (if t341 = 0 then ((layout_Data.f a0_0 l0_1 a0_2 a0_3).bind fun t342 => (if t342 = 0 then ((layout_Groups.f a0_0 l0_1 a0_2 a0_3).bind fun t343 => (if t343 = 0 then ((layout_Slots.f a0_0 l0_1 a0_2 a0_3).bind fun t344 => (if t344 = 0 then ((layout_Blocks.f a0_0 l0_1 a0_2 a0_3).bind fun t345 => (some (t345 == 0))) else (some false))) else (some false))) else (some false))) else (some false)))))))) else (some true))) else (some false)) = some r := H
  have A2 := Aside0.mk A20
  clear A20
  by_cases c3 : t336 = true
  · subst c3
    have H1 : ((tegulalaw21_few.f k a0_0 l0_1 a0_2 a0_3).bind fun t337 => (if t337 = true then ((layout_Valid.f a0_0 l0_1 a0_2 a0_3).bind fun t338 => ((tegularef21_Valid.f a0_0 l0_1 a0_2 a0_3).bind fun t339 => (if (t338 != t339) = true then (some false) else ((tegularef21_Valid.f a0_0 l0_1 a0_2 a0_3).bind fun t340 => (if t340 = true then ((layout_Width.f a0_0 l0_1 a0_2 a0_3).bind fun t346 => ((tegularef21_Width.f a0_0 l0_1 a0_2 a0_3).bind fun t347 => (if t346 = t347 then ((layout_Data.f a0_0 l0_1 a0_2 a0_3).bind fun t348 => ((tegularef21_Width.f a0_0 l0_1 a0_2 a0_3).bind fun t349 => (if t348 = (wrap64 (t349 - 3)) then ((layout_Groups.f a0_0 l0_1 a0_2 a0_3).bind fun t350 => ((tegularef21_Groups.f a0_0 l0_1 a0_2 a0_3).bind fun t351 => (if t350 = t351 then ((layout_Slots.f a0_0 l0_1 a0_2 a0_3).bind fun t352 => ((tegularef21_Slots.f a0_0 l0_1 a0_2 a0_3).bind fun t353 => (if t352 = t353 then ((layout_Blocks.f a0_0 l0_1 a0_2 a0_3).bind fun t354 => ((tegularef21_Blocks.f a0_0 l0_1 a0_2 a0_3).bind fun t355 => (some (t354 == t355)))) else (some false)))) else (some false)))) else (some false)))) else (some false)))) else ((layout_Width.f a0_0 l0_1 a0_2 a0_3).bind fun t341 => (if t341 = 0 then ((layout_Data.f a0_0 l0_1 a0_2 a0_3).bind fun t342 => (if t342 = 0 then ((layout_Groups.f a0_0 l0_1 a0_2 a0_3).bind fun t343 => (if t343 = 0 then ((layout_Slots.f a0_0 l0_1 a0_2 a0_3).bind fun t344 => (if t344 = 0 then ((layout_Blocks.f a0_0 l0_1 a0_2 a0_3).bind fun t345 => (some (t345 == 0))) else (some false))) else (some false))) else (some false))) else (some false)))))))) else (some true))) = some r := by rw [if_pos rfl] at H; exact H
    clear H
    have H := H1
    clear H1
    replace H := Option.bind_eq_some_iff.mp H
    obtain ⟨t337, A40, H⟩ := H
    replace H : (if t337 = true then ((layout_Valid.f a0_0 l0_1 a0_2 a0_3).bind fun t338 => ((tegularef21_Valid.f a0_0 l0_1 a0_2 a0_3).bind fun t339 => (if (t338 != t339) = true then (some false) else ((tegularef21_Valid.f a0_0 l0_1 a0_2 a0_3).bind fun t340 => (if t340 = true then ((layout_Width.f a0_0 l0_1 a0_2 a0_3).bind fun t346 => ((tegularef21_Width.f a0_0 l0_1 a0_2 a0_3).bind fun t347 => (if t346 = t347 then ((layout_Data.f a0_0 l0_1 a0_2 a0_3).bind fun t348 => ((tegularef21_Width.f a0_0 l0_1 a0_2 a0_3).bind fun t349 => (if t348 = (wrap64 (t349 - 3)) then ((layout_Groups.f a0_0 l0_1 a0_2 a0_3).bind fun t350 => ((tegularef21_Groups.f a0_0 l0_1 a0_2 a0_3).bind fun t351 => (if t350 = t351 then ((layout_Slots.f a0_0 l0_1 a0_2 a0_3).bind fun t352 => ((tegularef21_Slots.f a0_0 l0_1 a0_2 a0_3).bind fun t353 => (if t352 = t353 then ((layout_Blocks.f a0_0 l0_1 a0_2 a0_3).bind fun t354 => ((tegularef21_Blocks.f a0_0 l0_1 a0_2 a0_3).bind fun t355 => (some (t354 == t355)))) else (some false)))) else (some false)))) else (some false)))) else (some false)))) else ((layout_Width.f a0_0 l0_1 a0_2 a0_3).bind fun t341 => (if t341 = 0 then ((layout_Data.f a0_0 l0_1 a0_2 a0_3).bind fun t342 => (if t342 = 0 then ((layout_Groups.f a0_0 l0_1 a0_2 a0_3).bind fun t343 => (if t343 = 0 then ((layout_Slots.f a0_0 l0_1 a0_2 a0_3).bind fun t344 => (if t344 = 0 then ((layout_Blocks.f a0_0 l0_1 a0_2 a0_3).bind fun t345 => (some (t345 == 0))) else (some false))) else (some false))) else (some false))) else (some false)))))))) else (some true)) = some r := H
    have A4 := Aside0.mk A40
    clear A40
    by_cases c5 : t337 = true
    · subst c5
      have H1 : ((layout_Valid.f a0_0 l0_1 a0_2 a0_3).bind fun t338 => ((tegularef21_Valid.f a0_0 l0_1 a0_2 a0_3).bind fun t339 => (if (t338 != t339) = true then (some false) else ((tegularef21_Valid.f a0_0 l0_1 a0_2 a0_3).bind fun t340 => (if t340 = true then ((layout_Width.f a0_0 l0_1 a0_2 a0_3).bind fun t346 => ((tegularef21_Width.f a0_0 l0_1 a0_2 a0_3).bind fun t347 => (if t346 = t347 then ((layout_Data.f a0_0 l0_1 a0_2 a0_3).bind fun t348 => ((tegularef21_Width.f a0_0 l0_1 a0_2 a0_3).bind fun t349 => (if t348 = (wrap64 (t349 - 3)) then ((layout_Groups.f a0_0 l0_1 a0_2 a0_3).bind fun t350 => ((tegularef21_Groups.f a0_0 l0_1 a0_2 a0_3).bind fun t351 => (if t350 = t351 then ((layout_Slots.f a0_0 l0_1 a0_2 a0_3).bind fun t352 => ((tegularef21_Slots.f a0_0 l0_1 a0_2 a0_3).bind fun t353 => (if t352 = t353 then ((layout_Blocks.f a0_0 l0_1 a0_2 a0_3).bind fun t354 => ((tegularef21_Blocks.f a0_0 l0_1 a0_2 a0_3).bind fun t355 => (some (t354 == t355)))) else (some false)))) else (some false)))) else (some false)))) else (some false)))) else ((layout_Width.f a0_0 l0_1 a0_2 a0_3).bind fun t341 => (if t341 = 0 then ((layout_Data.f a0_0 l0_1 a0_2 a0_3).bind fun t342 => (if t342 = 0 then ((layout_Groups.f a0_0 l0_1 a0_2 a0_3).bind fun t343 => (if t343 = 0 then ((layout_Slots.f a0_0 l0_1 a0_2 a0_3).bind fun t344 => (if t344 = 0 then ((layout_Blocks.f a0_0 l0_1 a0_2 a0_3).bind fun t345 => (some (t345 == 0))) else (some false))) else (some false))) else (some false))) else (some false)))))))) = some r := by rw [if_pos rfl] at H; exact H
      clear H
      have H := H1
      clear H1
      replace H := Option.bind_eq_some_iff.mp H
      obtain ⟨t338, A60, H⟩ := H
      replace H : ((tegularef21_Valid.f a0_0 l0_1 a0_2 a0_3).bind fun t339 => (if (t338 != t339) = true then (some false) else ((tegularef21_Valid.f a0_0 l0_1 a0_2 a0_3).bind fun t340 => (if t340 = true then ((layout_Width.f a0_0 l0_1 a0_2 a0_3).bind fun t346 => ((tegularef21_Width.f a0_0 l0_1 a0_2 a0_3).bind fun t347 => (if t346 = t347 then ((layout_Data.f a0_0 l0_1 a0_2 a0_3).bind fun t348 => ((tegularef21_Width.f a0_0 l0_1 a0_2 a0_3).bind fun t349 => (if t348 = (wrap64 (t349 - 3)) then ((layout_Groups.f a0_0 l0_1 a0_2 a0_3).bind fun t350 => ((tegularef21_Groups.f a0_0 l0_1 a0_2 a0_3).bind fun t351 => (if t350 = t351 then ((layout_Slots.f a0_0 l0_1 a0_2 a0_3).bind fun t352 => ((tegularef21_Slots.f a0_0 l0_1 a0_2 a0_3).bind fun t353 => (if t352 = t353 then ((layout_Blocks.f a0_0 l0_1 a0_2 a0_3).bind fun t354 => ((tegularef21_Blocks.f a0_0 l0_1 a0_2 a0_3).bind fun t355 => (some (t354 == t355)))) else (some false)))) else (some false)))) else (some false)))) else (some false)))) else ((layout_Width.f a0_0 l0_1 a0_2 a0_3).bind fun t341 => (if t341 = 0 then ((layout_Data.f a0_0 l0_1 a0_2 a0_3).bind fun t342 => (if t342 = 0 then ((layout_Groups.f a0_0 l0_1 a0_2 a0_3).bind fun t343 => (if t343 = 0 then ((layout_Slots.f a0_0 l0_1 a0_2 a0_3).bind fun t344 => (if t344 = 0 then ((layout_Blocks.f a0_0 l0_1 a0_2 a0_3).bind fun t345 => (some (t345 == 0))) else (some false))) else (some false))) else (some false))) else (some false))))))) = some r := H
      have A6 := Aside0.mk A60
      clear A60
      replace H := Option.bind_eq_some_iff.mp H
      obtain ⟨t339, A70, H⟩ := H
      replace H : (if (t338 != t339) = true then (some false) else ((tegularef21_Valid.f a0_0 l0_1 a0_2 a0_3).bind fun t340 => (if t340 = true then ((layout_Width.f a0_0 l0_1 a0_2 a0_3).bind fun t346 => ((tegularef21_Width.f a0_0 l0_1 a0_2 a0_3).bind fun t347 => (if t346 = t347 then ((layout_Data.f a0_0 l0_1 a0_2 a0_3).bind fun t348 => ((tegularef21_Width.f a0_0 l0_1 a0_2 a0_3).bind fun t349 => (if t348 = (wrap64 (t349 - 3)) then ((layout_Groups.f a0_0 l0_1 a0_2 a0_3).bind fun t350 => ((tegularef21_Groups.f a0_0 l0_1 a0_2 a0_3).bind fun t351 => (if t350 = t351 then ((layout_Slots.f a0_0 l0_1 a0_2 a0_3).bind fun t352 => ((tegularef21_Slots.f a0_0 l0_1 a0_2 a0_3).bind fun t353 => (if t352 = t353 then ((layout_Blocks.f a0_0 l0_1 a0_2 a0_3).bind fun t354 => ((tegularef21_Blocks.f a0_0 l0_1 a0_2 a0_3).bind fun t355 => (some (t354 == t355)))) else (some false)))) else (some false)))) else (some false)))) else (some false)))) else ((layout_Width.f a0_0 l0_1 a0_2 a0_3).bind fun t341 => (if t341 = 0 then ((layout_Data.f a0_0 l0_1 a0_2 a0_3).bind fun t342 => (if t342 = 0 then ((layout_Groups.f a0_0 l0_1 a0_2 a0_3).bind fun t343 => (if t343 = 0 then ((layout_Slots.f a0_0 l0_1 a0_2 a0_3).bind fun t344 => (if t344 = 0 then ((layout_Blocks.f a0_0 l0_1 a0_2 a0_3).bind fun t345 => (some (t345 == 0))) else (some false))) else (some false))) else (some false))) else (some false)))))) = some r := H
      have A7 := Aside0.mk A70
      clear A70
      by_cases c8 : (t338 != t339) = true
      · rw [if_pos c8] at H
        have c8b0 : (t338 != t339) = true := c8
        (try (have c8b1 : decide (t338 = t339) = false := by simpa using c8))
        (try (have c8b2 : (t338 == t339) = false := by simpa using c8))
        (try (have c8b3 : ¬ (t338 = t339) := by simpa using c8))
        clear c8
        obtain rfl := Option.some.inj H
        cases hrt
      · rw [if_neg c8] at H
        have c8b0 : (t338 != t339) = false := by simpa using c8
        (try (have c8b1 : decide (t338 = t339) = true := by simpa using c8))
        (try (have c8b2 : (t338 == t339) = true := by simpa using c8))
        clear c8
        replace H := Option.bind_eq_some_iff.mp H
        obtain ⟨t340, A160, H⟩ := H
        replace H : (if t340 = true then ((layout_Width.f a0_0 l0_1 a0_2 a0_3).bind fun t346 => ((tegularef21_Width.f a0_0 l0_1 a0_2 a0_3).bind fun t347 => (if t346 = t347 then ((layout_Data.f a0_0 l0_1 a0_2 a0_3).bind fun t348 => ((tegularef21_Width.f a0_0 l0_1 a0_2 a0_3).bind fun t349 => (if t348 = (wrap64 (t349 - 3)) then ((layout_Groups.f a0_0 l0_1 a0_2 a0_3).bind fun t350 => ((tegularef21_Groups.f a0_0 l0_1 a0_2 a0_3).bind fun t351 => (if t350 = t351 then ((layout_Slots.f a0_0 l0_1 a0_2 a0_3).bind fun t352 => ((tegularef21_Slots.f a0_0 l0_1 a0_2 a0_3).bind fun t353 => (if t352 = t353 then ((layout_Blocks.f a0_0 l0_1 a0_2 a0_3).bind fun t354 => ((tegularef21_Blocks.f a0_0 l0_1 a0_2 a0_3).bind fun t355 => (some (t354 == t355)))) else (some false)))) else (some false)))) else (some false)))) else (some false)))) else ((layout_Width.f a0_0 l0_1 a0_2 a0_3).bind fun t341 => (if t341 = 0 then ((layout_Data.f a0_0 l0_1 a0_2 a0_3).bind fun t342 => (if t342 = 0 then ((layout_Groups.f a0_0 l0_1 a0_2 a0_3).bind fun t343 => (if t343 = 0 then ((layout_Slots.f a0_0 l0_1 a0_2 a0_3).bind fun t344 => (if t344 = 0 then ((layout_Blocks.f a0_0 l0_1 a0_2 a0_3).bind fun t345 => (some (t345 == 0))) else (some false))) else (some false))) else (some false))) else (some false)))) = some r := H
        have A16 := Aside0.mk A160
        clear A160
        by_cases c17 : t340 = true
        · subst c17
          have H1 : ((layout_Width.f a0_0 l0_1 a0_2 a0_3).bind fun t346 => ((tegularef21_Width.f a0_0 l0_1 a0_2 a0_3).bind fun t347 => (if t346 = t347 then ((layout_Data.f a0_0 l0_1 a0_2 a0_3).bind fun t348 => ((tegularef21_Width.f a0_0 l0_1 a0_2 a0_3).bind fun t349 => (if t348 = (wrap64 (t349 - 3)) then ((layout_Groups.f a0_0 l0_1 a0_2 a0_3).bind fun t350 => ((tegularef21_Groups.f a0_0 l0_1 a0_2 a0_3).bind fun t351 => (if t350 = t351 then ((layout_Slots.f a0_0 l0_1 a0_2 a0_3).bind fun t352 => ((tegularef21_Slots.f a0_0 l0_1 a0_2 a0_3).bind fun t353 => (if t352 = t353 then ((layout_Blocks.f a0_0 l0_1 a0_2 a0_3).bind fun t354 => ((tegularef21_Blocks.f a0_0 l0_1 a0_2 a0_3).bind fun t355 => (some (t354 == t355)))) else (some false)))) else (some false)))) else (some false)))) else (some false)))) = some r := by rw [if_pos rfl] at H; exact H
          clear H
          have H := H1
          clear H1
          replace H := Option.bind_eq_some_iff.mp H
          obtain ⟨t346, A180, H⟩ := H
          replace H : ((tegularef21_Width.f a0_0 l0_1 a0_2 a0_3).bind fun t347 => (if t346 = t347 then ((layout_Data.f a0_0 l0_1 a0_2 a0_3).bind fun t348 => ((tegularef21_Width.f a0_0 l0_1 a0_2 a0_3).bind fun t349 => (if t348 = (wrap64 (t349 - 3)) then ((layout_Groups.f a0_0 l0_1 a0_2 a0_3).bind fun t350 => ((tegularef21_Groups.f a0_0 l0_1 a0_2 a0_3).bind fun t351 => (if t350 = t351 then ((layout_Slots.f a0_0 l0_1 a0_2 a0_3).bind fun t352 => ((tegularef21_Slots.f a0_0 l0_1 a0_2 a0_3).bind fun t353 => (if t352 = t353 then ((layout_Blocks.f a0_0 l0_1 a0_2 a0_3).bind fun t354 => ((tegularef21_Blocks.f a0_0 l0_1 a0_2 a0_3).bind fun t355 => (some (t354 == t355)))) else (some false)))) else (some false)))) else (some false)))) else (some false))) = some r := H
          have A18 := Aside0.mk A180
          clear A180
          replace H := Option.bind_eq_some_iff.mp H
          obtain ⟨t347, A190, H⟩ := H
          replace H : (if t346 = t347 then ((layout_Data.f a0_0 l0_1 a0_2 a0_3).bind fun t348 => ((tegularef21_Width.f a0_0 l0_1 a0_2 a0_3).bind fun t349 => (if t348 = (wrap64 (t349 - 3)) then ((layout_Groups.f a0_0 l0_1 a0_2 a0_3).bind fun t350 => ((tegularef21_Groups.f a0_0 l0_1 a0_2 a0_3).bind fun t351 => (if t350 = t351 then ((layout_Slots.f a0_0 l0_1 a0_2 a0_3).bind fun t352 => ((tegularef21_Slots.f a0_0 l0_1 a0_2 a0_3).bind fun t353 => (if t352 = t353 then ((layout_Blocks.f a0_0 l0_1 a0_2 a0_3).bind fun t354 => ((tegularef21_Blocks.f a0_0 l0_1 a0_2 a0_3).bind fun t355 => (some (t354 == t355)))) else (some false)))) else (some false)))) else (some false)))) else (some false)) = some r := H
          have A19 := Aside0.mk A190
          clear A190
          by_cases c20 : t346 = t347
          · rw [if_pos c20] at H
            have c20b0 : (t346 == t347) = true := beq_iff_eq.mpr c20
            have c20b1 : (t346 != t347) = false := bne_eq_false_iff_eq.mpr c20
            clear c20
            replace H := Option.bind_eq_some_iff.mp H
            obtain ⟨t348, A210, H⟩ := H
            replace H : ((tegularef21_Width.f a0_0 l0_1 a0_2 a0_3).bind fun t349 => (if t348 = (wrap64 (t349 - 3)) then ((layout_Groups.f a0_0 l0_1 a0_2 a0_3).bind fun t350 => ((tegularef21_Groups.f a0_0 l0_1 a0_2 a0_3).bind fun t351 => (if t350 = t351 then ((layout_Slots.f a0_0 l0_1 a0_2 a0_3).bind fun t352 => ((tegularef21_Slots.f a0_0 l0_1 a0_2 a0_3).bind fun t353 => (if t352 = t353 then ((layout_Blocks.f a0_0 l0_1 a0_2 a0_3).bind fun t354 => ((tegularef21_Blocks.f a0_0 l0_1 a0_2 a0_3).bind fun t355 => (some (t354 == t355)))) else (some false)))) else (some false)))) else (some false))) = some r := H
            have A21 := Aside0.mk A210
            clear A210
            replace H := Option.bind_eq_some_iff.mp H
            obtain ⟨t349, A220, H⟩ := H
            replace H : (if t348 = (wrap64 (t349 - 3)) then ((layout_Groups.f a0_0 l0_1 a0_2 a0_3).bind fun t350 => ((tegularef21_Groups.f a0_0 l0_1 a0_2 a0_3).bind fun t351 => (if t350 = t351 then ((layout_Slots.f a0_0 l0_1 a0_2 a0_3).bind fun t352 => ((tegularef21_Slots.f a0_0 l0_1 a0_2 a0_3).bind fun t353 => (if t352 = t353 then ((layout_Blocks.f a0_0 l0_1 a0_2 a0_3).bind fun t354 => ((tegularef21_Blocks.f a0_0 l0_1 a0_2 a0_3).bind fun t355 => (some (t354 == t355)))) else (some false)))) else (some false)))) else (some false)) = some r := H
            have A22 := Aside0.mk A220
            clear A220
            by_cases c23 : t348 = (wrap64 (t349 - 3))
            · rw [if_pos c23] at H
              have c23b0 : (t348 == (wrap64 (t349 - 3))) = true := beq_iff_eq.mpr c23
              have c23b1 : (t348 != (wrap64 (t349 - 3))) = false := bne_eq_false_iff_eq.mpr c23
              clear c23
              replace H := Option.bind_eq_some_iff.mp H
              obtain ⟨t350, A240, H⟩ := H
              replace H : ((tegularef21_Groups.f a0_0 l0_1 a0_2 a0_3).bind fun t351 => (if t350 = t351 then ((layout_Slots.f a0_0 l0_1 a0_2 a0_3).bind fun t352 => ((tegularef21_Slots.f a0_0 l0_1 a0_2 a0_3).bind fun t353 => (if t352 = t353 then ((layout_Blocks.f a0_0 l0_1 a0_2 a0_3).bind fun t354 => ((tegularef21_Blocks.f a0_0 l0_1 a0_2 a0_3).bind fun t355 => (some (t354 == t355)))) else (some false)))) else (some false))) = some r := H
              have A24 := Aside0.mk A240
              clear A240
              replace H := Option.bind_eq_some_iff.mp H
              obtain ⟨t351, A250, H⟩ := H
              replace H : (if t350 = t351 then ((layout_Slots.f a0_0 l0_1 a0_2 a0_3).bind fun t352 => ((tegularef21_Slots.f a0_0 l0_1 a0_2 a0_3).bind fun t353 => (if t352 = t353 then ((layout_Blocks.f a0_0 l0_1 a0_2 a0_3).bind fun t354 => ((tegularef21_Blocks.f a0_0 l0_1 a0_2 a0_3).bind fun t355 => (some (t354 == t355)))) else (some false)))) else (some false)) = some r := H
              have A25 := Aside0.mk A250
              clear A250
              by_cases c26 : t350 = t351
              · rw [if_pos c26] at H
                have c26b0 : (t350 == t351) = true := beq_iff_eq.mpr c26
                have c26b1 : (t350 != t351) = false := bne_eq_false_iff_eq.mpr c26
                clear c26
                replace H := Option.bind_eq_some_iff.mp H
                obtain ⟨t352, A270, H⟩ := H
                replace H : ((tegularef21_Slots.f a0_0 l0_1 a0_2 a0_3).bind fun t353 => (if t352 = t353 then ((layout_Blocks.f a0_0 l0_1 a0_2 a0_3).bind fun t354 => ((tegularef21_Blocks.f a0_0 l0_1 a0_2 a0_3).bind fun t355 => (some (t354 == t355)))) else (some false))) = some r := H
                have A27 := Aside0.mk A270
                clear A270
                replace H := Option.bind_eq_some_iff.mp H
                obtain ⟨t353, A280, H⟩ := H
                replace H : (if t352 = t353 then ((layout_Blocks.f a0_0 l0_1 a0_2 a0_3).bind fun t354 => ((tegularef21_Blocks.f a0_0 l0_1 a0_2 a0_3).bind fun t355 => (some (t354 == t355)))) else (some false)) = some r := H
                have A28 := Aside0.mk A280
                clear A280
                by_cases c29 : t352 = t353
                · rw [if_pos c29] at H
                  have c29b0 : (t352 == t353) = true := beq_iff_eq.mpr c29
                  have c29b1 : (t352 != t353) = false := bne_eq_false_iff_eq.mpr c29
                  clear c29
                  replace H := Option.bind_eq_some_iff.mp H
                  obtain ⟨t354, A300, H⟩ := H
                  replace H : ((tegularef21_Blocks.f a0_0 l0_1 a0_2 a0_3).bind fun t355 => (some (t354 == t355))) = some r := H
                  have A30 := Aside0.mk A300
                  clear A300
                  replace H := Option.bind_eq_some_iff.mp H
                  obtain ⟨t355, A310, H⟩ := H
                  replace H : (some (t354 == t355)) = some r := H
                  have A31 := Aside0.mk A310
                  clear A310
                  obtain rfl := Option.some.inj H
                  go_enter Try.func7, Try.ntmps7
                  try go_wp2_with (first | ((with_reducible refine gate_dst (N := 1) rfl ?_); refine box_event ?hg (N := 1) ?hd (cs := #[.int .i64 a0_0, .slice A0_1 l0_1.length c0_1, .int .i64 a0_2, .int .i64 a0_3]) (t := 28) ?hr ?_; (case hd => rfl); (case hg => rfl); (case hr => first | (go_simp; done) | (go_simp; rfl)); intro gb335 hg w32 hbox hb; have n0_ := Aside0.mk (below_step (by repeat (first | (with_reducible first | exact HB.out | apply below_alloc | apply pw_below_drewN | apply below_drew1) | exact HB.out)) hb); have n1_ := Aside0.mk (hbox); have n2_ := Aside0.mk ((by rw [hg]; exact (below_size (by repeat (first | (with_reducible first | exact HB.out | apply below_alloc | apply pw_below_drewN | apply below_drew1) | exact HB.out))) : w.heap.size ≤ gb335)); have n3_ := Aside0.mk ((by rw [hg]; exact (below_size (by repeat (first | (with_reducible first | exact HB.out | apply below_alloc | apply pw_below_drewN | apply below_drew1) | exact HB.out))) : w.heap.size ≤ gb335)); clear HB; have HB := n0_; have BK335 := n1_; have GW335 := n2_; have GE335 := n3_; clear n0_ n1_ n2_ n3_; clear hb hbox hg) | ((with_reducible refine gate_callee (f := 13) rfl ?_); refine goesL_ (some 3) rfl rfl Try.func13 (by kernel_rfl) rfl #[] rfl (by (try simp only [List.map_toArray, List.map_cons, List.map_nil]); first | done | rfl | (simp only [List.length_drop, List.length_take]; rfl)) ?_; (with_reducible refine (tegulalaw21_awake.calls  true _ A2.out).mono ?_); rintro e w33 ⟨rfl, hb⟩; refine ⟨_, rfl, ?_⟩; have n0_ := Aside0.mk (blk_below (g := gb335) (o := .cells #[.int .i64 a0_0, .slice A0_1 l0_1.length c0_1, .int .i64 a0_2, .int .i64 a0_3] 28 (0, 0)) (by (with_reducible repeat (first | refine blk_drewN ?_ _ | refine blk_drew ?_ | refine blk_alloc ?_ _)); exact BK335.out) hb); have n1_ := Aside0.mk (below_step (by repeat (first | (with_reducible first | exact HB.out | apply below_alloc | apply pw_below_drewN | apply below_drew1 | refine below_set ?_ GE335.out) | exact HB.out)) hb); clear BK335; clear HB; have BK335 := n0_; have HB := n1_; clear n0_ n1_; (try clear hb); (try clear hb2); (try clear hk); (try clear hi); have hcz34_0 : w33.cell? ⟨gb335, 0, none⟩ = some (.int .i64 a0_0) := (blk_cell BK335.out 0).trans rfl; have hcz34_1 : w33.cell? ⟨gb335, 1, none⟩ = some (.slice A0_1 l0_1.length c0_1) := (blk_cell BK335.out 1).trans rfl; have hcz34_2 : w33.cell? ⟨gb335, 2, none⟩ = some (.int .i64 a0_2) := (blk_cell BK335.out 2).trans rfl; have hcz34_3 : w33.cell? ⟨gb335, 3, none⟩ = some (.int .i64 a0_3) := (blk_cell BK335.out 3).trans rfl; have hfz34_0 := blk_frozen BK335.out 0; have hfz34_1 := blk_frozen BK335.out 1; have hfz34_2 := blk_frozen BK335.out 2; have hfz34_3 := blk_frozen BK335.out 3) | ((with_reducible refine gate_callee (f := 27) rfl ?_); refine goesL_ (some 6) rfl rfl Try.func27 (by kernel_rfl) rfl #[.agg #[.int .i64 a0_0, .slice A0_1 l0_1.length c0_1, .int .i64 a0_2, .int .i64 a0_3]] rfl (by (try simp only [List.map_toArray, List.map_cons, List.map_nil]); first | done | rfl | (simp only [List.length_drop, List.length_take]; rfl)) ?_; (with_reducible refine (tegulalaw21_few.calls k a0_0 _ _ l0_1 a0_2 a0_3 true _ ?side1 ?side2 A4.out).mono ?_); (case side1 => repeat (first | exact (Kd.C_below HR0_1.out HB.out) | (with_reducible refine Kd.C_alloc ?_ _) | (with_reducible refine Kd.C_drewN ?_ _) | (with_reducible refine Kd.C_drew ?_))); (case side2 => exact HC0_1.out); rintro e w35 ⟨rfl, hb⟩; refine ⟨_, rfl, ?_⟩; have n0_ := Aside0.mk (blk_below (g := gb335) (o := .cells #[.int .i64 a0_0, .slice A0_1 l0_1.length c0_1, .int .i64 a0_2, .int .i64 a0_3] 28 (0, 0)) (by (with_reducible repeat (first | refine blk_drewN ?_ _ | refine blk_drew ?_ | refine blk_alloc ?_ _)); exact BK335.out) hb); have n1_ := Aside0.mk (below_step (by repeat (first | (with_reducible first | exact HB.out | apply below_alloc | apply pw_below_drewN | apply below_drew1 | refine below_set ?_ GE335.out) | exact HB.out)) hb); clear BK335; clear HB; have BK335 := n0_; have HB := n1_; clear n0_ n1_; (try clear hb); (try clear hb2); (try clear hk); (try clear hi)))
                  have n0_ := Aside0.mk (blk_drew BK335.out)
                  have n1_ := Aside0.mk (below_drew1 HB.out)
                  clear BK335
                  clear HB
                  have BK335 := n0_
                  have HB := n1_
                  clear n0_ n1_
                  refine start_ (n := 5) (S := fun w' => w'.cell? ⟨gb335, 0, none⟩ = some (.int .i64 a0_0) ∧ w'.cell? ⟨gb335, 1, none⟩ = some (.slice A0_1 l0_1.length c0_1) ∧ w'.cell? ⟨gb335, 2, none⟩ = some (.int .i64 a0_2) ∧ w'.cell? ⟨gb335, 3, none⟩ = some (.int .i64 a0_3)) (ds := []) #[false, false, false, false, false] (by kernel_rfl) rfl rfl ⟨(blk_cell BK335.out 0).trans rfl, (blk_cell BK335.out 1).trans rfl, (blk_cell BK335.out 2).trans rfl, (blk_cell BK335.out 3).trans rfl⟩ (fun hHeld => ?_)
                  generalize w35.drew = w36 at BK335 HB hHeld ⊢
                  refine take_ (i := 0) (N := some 8) (v := ?_) (a' := ?_) #[true, false, false, false, false] rfl rfl (by kernel_rfl) (fun _ _ _ h => h) (Or.inl ⟨by rfl, ?_⟩) hHeld ?_ ?_
                  rotate_left
                  · rintro w' ⟨s0, s1, s2, s3⟩
                    go_simp
                    with_reducible rfl
                  rotate_left
                  · simp only [Act.put, List.setIfInBounds_toArray, List.set_cons_zero, List.set_cons_succ, i64_w, i32_w]
                    rfl
                  refine take_ (i := 2) (N := some 10) (v := ?_) (a' := ?_) #[true, false, true, false, false] rfl rfl (by kernel_rfl) (fun _ _ _ h => h) (Or.inl ⟨by rfl, ?_⟩) hHeld ?_ ?_
                  rotate_left
                  · rintro w' ⟨s0, s1, s2, s3⟩
                    go_simp
                    with_reducible rfl
                  rotate_left
                  · simp only [Act.put, List.setIfInBounds_toArray, List.set_cons_zero, List.set_cons_succ, i64_w, i32_w]
                    rfl
                  refine one_ (i := 1) (N := some 9) #[true, true, true, false, false] rfl rfl (by kernel_rfl) (by decide) (fun K hK => ?_)
                  refine goes_ Try.func28 (by kernel_rfl) rfl #[.agg #[.int .i64 a0_0, .slice A0_1 l0_1.length c0_1, .int .i64 a0_2, .int .i64 a0_3]] (by rfl) rfl rfl (by (try simp only [List.map_toArray, List.map_cons, List.map_nil]); first | done | rfl | (simp only [List.length_drop, List.length_take]; rfl)) ?_
                  with_reducible refine (layout_Valid.calls a0_0 _ _ l0_1 a0_2 a0_3 t338 _ ?side1 ?side2 A6.out).mono ?_
                  (case side1 => repeat (first | exact (Kd.C_below HR0_1.out HB.out) | (with_reducible refine Kd.C_alloc ?_ _) | (with_reducible refine Kd.C_drewN ?_ _) | (with_reducible refine Kd.C_drew ?_)))
                  (case side2 => exact HC0_1.out)
                  rintro e w37 ⟨rfl, hb⟩
                  refine ⟨_, rfl, ?_⟩
                  have n0_ := Aside0.mk (blk_below (g := gb335) (o := .cells #[.int .i64 a0_0, .slice A0_1 l0_1.length c0_1, .int .i64 a0_2, .int .i64 a0_3] 28 (0, 0)) (by (with_reducible repeat (first | refine blk_drewN ?_ _ | refine blk_drew ?_ | refine blk_alloc ?_ _)); exact BK335.out) hb)
                  have n1_ := Aside0.mk (below_step (by repeat (first | (with_reducible first | exact HB.out | apply below_alloc | apply pw_below_drewN | apply below_drew1 | refine below_set ?_ GE335.out) | exact HB.out)) hb)
                  clear BK335
                  clear HB
                  have BK335 := n0_
                  have HB := n1_
                  clear n0_ n1_
                  (try clear hb)
                  (try clear hb2)
                  (try clear hk)
                  (try clear hi)
                  refine hK.out _ _ ⟨(blk_cell BK335.out 0).trans rfl, (blk_cell BK335.out 1).trans rfl, (blk_cell BK335.out 2).trans rfl, (blk_cell BK335.out 3).trans rfl⟩ (fun hHeld => ?_)
                  clear hK K
                  refine norm_ (a' := ?_) ?_ ?_
                  rotate_left
                  · show Act.put _ (some 9) _ = _
                    simp only [Act.put, List.setIfInBounds_toArray, List.set_cons_zero, List.set_cons_succ, i64_w, i32_w]
                    rfl
                  refine one_ (i := 3) (N := some 11) #[true, true, true, true, false] rfl rfl (by kernel_rfl) (by decide) (fun K hK => ?_)
                  refine goes_ Try.func29 (by kernel_rfl) rfl #[.agg #[.int .i64 a0_0, .slice A0_1 l0_1.length c0_1, .int .i64 a0_2, .int .i64 a0_3]] (by rfl) rfl rfl (by (try simp only [List.map_toArray, List.map_cons, List.map_nil]); first | done | rfl | (simp only [List.length_drop, List.length_take]; rfl)) ?_
                  with_reducible refine (tegularef21_Valid.calls a0_0 _ _ l0_1 a0_2 a0_3 t339 _ ?side1 ?side2 A7.out).mono ?_
                  (case side1 => repeat (first | exact (Kd.C_below HR0_1.out HB.out) | (with_reducible refine Kd.C_alloc ?_ _) | (with_reducible refine Kd.C_drewN ?_ _) | (with_reducible refine Kd.C_drew ?_)))
                  (case side2 => exact HC0_1.out)
                  rintro e w38 ⟨rfl, hb⟩
                  refine ⟨_, rfl, ?_⟩
                  have n0_ := Aside0.mk (blk_below (g := gb335) (o := .cells #[.int .i64 a0_0, .slice A0_1 l0_1.length c0_1, .int .i64 a0_2, .int .i64 a0_3] 28 (0, 0)) (by (with_reducible repeat (first | refine blk_drewN ?_ _ | refine blk_drew ?_ | refine blk_alloc ?_ _)); exact BK335.out) hb)
                  have n1_ := Aside0.mk (below_step (by repeat (first | (with_reducible first | exact HB.out | apply below_alloc | apply pw_below_drewN | apply below_drew1 | refine below_set ?_ GE335.out) | exact HB.out)) hb)
                  clear BK335
                  clear HB
                  have BK335 := n0_
                  have HB := n1_
                  clear n0_ n1_
                  (try clear hb)
                  (try clear hb2)
                  (try clear hk)
                  (try clear hi)
                  refine hK.out _ _ ⟨(blk_cell BK335.out 0).trans rfl, (blk_cell BK335.out 1).trans rfl, (blk_cell BK335.out 2).trans rfl, (blk_cell BK335.out 3).trans rfl⟩ (fun hHeld => ?_)
                  clear hK K
                  refine norm_ (a' := ?_) ?_ ?_
                  rotate_left
                  · show Act.put _ (some 11) _ = _
                    simp only [Act.put, List.setIfInBounds_toArray, List.set_cons_zero, List.set_cons_succ, i64_w, i32_w]
                    rfl
                  refine pure_ (i := 4) (N := some 12) (v := ?_) (a' := ?_) #[true, true, true, true, true] rfl rfl (by kernel_rfl) (fun _ _ _ h => h) (Or.inl ⟨by rfl, ?_⟩) ?_ ?_
                  rotate_left
                  · intro w'
                    go_simp
                    with_reducible rfl
                  rotate_left
                  · simp only [Act.put, List.setIfInBounds_toArray, List.set_cons_zero, List.set_cons_succ, i64_w, i32_w]
                    rfl
                  refine done_ (by kernel_rfl) ?_
                  have hcz39_0 : w38.cell? ⟨gb335, 0, none⟩ = some (.int .i64 a0_0) := (blk_cell BK335.out 0).trans rfl
                  have hcz39_1 : w38.cell? ⟨gb335, 1, none⟩ = some (.slice A0_1 l0_1.length c0_1) := (blk_cell BK335.out 1).trans rfl
                  have hcz39_2 : w38.cell? ⟨gb335, 2, none⟩ = some (.int .i64 a0_2) := (blk_cell BK335.out 2).trans rfl
                  have hcz39_3 : w38.cell? ⟨gb335, 3, none⟩ = some (.int .i64 a0_3) := (blk_cell BK335.out 3).trans rfl
                  have hfz39_0 := blk_frozen BK335.out 0
                  have hfz39_1 := blk_frozen BK335.out 1
                  have hfz39_2 := blk_frozen BK335.out 2
                  have hfz39_3 := blk_frozen BK335.out 3
                  try go_wp2_with (first | ((with_reducible refine gate_callee (f := 29) rfl ?_); refine goesL_ (some 14) rfl rfl Try.func29 (by kernel_rfl) rfl #[.agg #[.int .i64 a0_0, .slice A0_1 l0_1.length c0_1, .int .i64 a0_2, .int .i64 a0_3]] rfl (by (try simp only [List.map_toArray, List.map_cons, List.map_nil]); first | done | rfl | (simp only [List.length_drop, List.length_take]; rfl)) ?_; (with_reducible refine (tegularef21_Valid.calls a0_0 _ _ l0_1 a0_2 a0_3 true _ ?side1 ?side2 A16.out).mono ?_); (case side1 => repeat (first | exact (Kd.C_below HR0_1.out HB.out) | (with_reducible refine Kd.C_alloc ?_ _) | (with_reducible refine Kd.C_drewN ?_ _) | (with_reducible refine Kd.C_drew ?_))); (case side2 => exact HC0_1.out); rintro e w40 ⟨rfl, hb⟩; refine ⟨_, rfl, ?_⟩; have n0_ := Aside0.mk (blk_below (g := gb335) (o := .cells #[.int .i64 a0_0, .slice A0_1 l0_1.length c0_1, .int .i64 a0_2, .int .i64 a0_3] 28 (0, 0)) (by (with_reducible repeat (first | refine blk_drewN ?_ _ | refine blk_drew ?_ | refine blk_alloc ?_ _)); exact BK335.out) hb); have n1_ := Aside0.mk (below_step (by repeat (first | (with_reducible first | exact HB.out | apply below_alloc | apply pw_below_drewN | apply below_drew1 | refine below_set ?_ GE335.out) | exact HB.out)) hb); clear BK335; clear HB; have BK335 := n0_; have HB := n1_; clear n0_ n1_; (try clear hb); (try clear hb2); (try clear hk); (try clear hi)))
                  have n0_ := Aside0.mk (blk_drew BK335.out)
                  have n1_ := Aside0.mk (below_drew1 HB.out)
                  clear BK335
                  clear HB
                  have BK335 := n0_
                  have HB := n1_
                  clear n0_ n1_
                  refine start_ (n := 35) (S := fun w' => w'.cell? ⟨gb335, 0, none⟩ = some (.int .i64 a0_0) ∧ w'.cell? ⟨gb335, 1, none⟩ = some (.slice A0_1 l0_1.length c0_1) ∧ w'.cell? ⟨gb335, 2, none⟩ = some (.int .i64 a0_2) ∧ w'.cell? ⟨gb335, 3, none⟩ = some (.int .i64 a0_3)) (ds := []) #[false, false, false, false, false, false, false, false, false, false, false, false, false, false, false, false, false, false, false, false, false, false, false, false, false, false, false, false, false, false, false, false, false, false, false] (by kernel_rfl) rfl rfl ⟨(blk_cell BK335.out 0).trans rfl, (blk_cell BK335.out 1).trans rfl, (blk_cell BK335.out 2).trans rfl, (blk_cell BK335.out 3).trans rfl⟩ (fun hHeld => ?_); refine with_tabW tegulalaw21_LayoutValid.tab9 tegulalaw21_LayoutValid.bits9 (fun HT_ HW_ => ?_)
                  generalize w40.drew = w41 at BK335 HB hHeld ⊢
                  refine take_ (i := 0) (N := some 39) (v := ?_) (a' := ?_) #[true, false, false, false, false, false, false, false, false, false, false, false, false, false, false, false, false, false, false, false, false, false, false, false, false, false, false, false, false, false, false, false, false, false, false] rfl rfl (take_ofW HT_.out HW_.out (by kernel_rfl)) (fun _ _ _ h => h) (Or.inl ⟨by rfl, ?_⟩) hHeld ?_ ?_
                  rotate_left
                  · rintro w' ⟨s0, s1, s2, s3⟩
                    go_simp
                    with_reducible rfl
                  rotate_left
                  · simp only [Act.put, List.setIfInBounds_toArray, List.set_cons_zero, List.set_cons_succ, i64_w, i32_w]
                    rfl
                  refine take_ (i := 2) (N := some 41) (v := ?_) (a' := ?_) #[true, false, true, false, false, false, false, false, false, false, false, false, false, false, false, false, false, false, false, false, false, false, false, false, false, false, false, false, false, false, false, false, false, false, false] rfl rfl (take_ofW HT_.out HW_.out (by kernel_rfl)) (fun _ _ _ h => h) (Or.inl ⟨by rfl, ?_⟩) hHeld ?_ ?_
                  rotate_left
                  · rintro w' ⟨s0, s1, s2, s3⟩
                    go_simp
                    with_reducible rfl
                  rotate_left
                  · simp only [Act.put, List.setIfInBounds_toArray, List.set_cons_zero, List.set_cons_succ, i64_w, i32_w]
                    rfl
                  refine one_ (i := 1) (N := some 40) #[true, true, true, false, false, false, false, false, false, false, false, false, false, false, false, false, false, false, false, false, false, false, false, false, false, false, false, false, false, false, false, false, false, false, false] rfl rfl (one_of HT_.out (by kernel_rfl)) (by decide) (fun K hK => ?_)
                  refine goes_ Try.func26 (by kernel_rfl) rfl #[.agg #[.int .i64 a0_0, .slice A0_1 l0_1.length c0_1, .int .i64 a0_2, .int .i64 a0_3]] (by rfl) rfl rfl (by (try simp only [List.map_toArray, List.map_cons, List.map_nil]); first | done | rfl | (simp only [List.length_drop, List.length_take]; rfl)) ?_
                  with_reducible refine (layout_Width.calls a0_0 _ _ l0_1 a0_2 a0_3 t346 _ ?side1 ?side2 A18.out).mono ?_
                  (case side1 => repeat (first | exact (Kd.C_below HR0_1.out HB.out) | (with_reducible refine Kd.C_alloc ?_ _) | (with_reducible refine Kd.C_drewN ?_ _) | (with_reducible refine Kd.C_drew ?_)))
                  (case side2 => exact HC0_1.out)
                  rintro e w42 ⟨rfl, hb⟩
                  refine ⟨_, rfl, ?_⟩
                  have n0_ := Aside0.mk (blk_below (g := gb335) (o := .cells #[.int .i64 a0_0, .slice A0_1 l0_1.length c0_1, .int .i64 a0_2, .int .i64 a0_3] 28 (0, 0)) (by (with_reducible repeat (first | refine blk_drewN ?_ _ | refine blk_drew ?_ | refine blk_alloc ?_ _)); exact BK335.out) hb)
                  have n1_ := Aside0.mk (below_step (by repeat (first | (with_reducible first | exact HB.out | apply below_alloc | apply pw_below_drewN | apply below_drew1 | refine below_set ?_ GE335.out) | exact HB.out)) hb)
                  clear BK335
                  clear HB
                  have BK335 := n0_
                  have HB := n1_
                  clear n0_ n1_
                  (try clear hb)
                  (try clear hb2)
                  (try clear hk)
                  (try clear hi)
                  refine hK.out _ _ ⟨(blk_cell BK335.out 0).trans rfl, (blk_cell BK335.out 1).trans rfl, (blk_cell BK335.out 2).trans rfl, (blk_cell BK335.out 3).trans rfl⟩ (fun hHeld => ?_)
                  clear hK K
                  refine norm_ (a' := ?_) ?_ ?_
                  rotate_left
                  · show Act.put _ (some 40) _ = _
                    simp only [Act.put, List.setIfInBounds_toArray, List.set_cons_zero, List.set_cons_succ, i64_w, i32_w]
                    rfl
                  refine one_ (i := 3) (N := some 42) #[true, true, true, true, false, false, false, false, false, false, false, false, false, false, false, false, false, false, false, false, false, false, false, false, false, false, false, false, false, false, false, false, false, false, false] rfl rfl (one_of HT_.out (by kernel_rfl)) (by decide) (fun K hK => ?_)
                  refine goes_ Try.func23 (by kernel_rfl) rfl #[.agg #[.int .i64 a0_0, .slice A0_1 l0_1.length c0_1, .int .i64 a0_2, .int .i64 a0_3]] (by rfl) rfl rfl (by (try simp only [List.map_toArray, List.map_cons, List.map_nil]); first | done | rfl | (simp only [List.length_drop, List.length_take]; rfl)) ?_
                  with_reducible refine (tegularef21_Width.calls a0_0 _ _ l0_1 a0_2 a0_3 t347 _ ?side1 ?side2 A19.out).mono ?_
                  (case side1 => repeat (first | exact (Kd.C_below HR0_1.out HB.out) | (with_reducible refine Kd.C_alloc ?_ _) | (with_reducible refine Kd.C_drewN ?_ _) | (with_reducible refine Kd.C_drew ?_)))
                  (case side2 => exact HC0_1.out)
                  rintro e w43 ⟨rfl, hb⟩
                  refine ⟨_, rfl, ?_⟩
                  have n0_ := Aside0.mk (blk_below (g := gb335) (o := .cells #[.int .i64 a0_0, .slice A0_1 l0_1.length c0_1, .int .i64 a0_2, .int .i64 a0_3] 28 (0, 0)) (by (with_reducible repeat (first | refine blk_drewN ?_ _ | refine blk_drew ?_ | refine blk_alloc ?_ _)); exact BK335.out) hb)
                  have n1_ := Aside0.mk (below_step (by repeat (first | (with_reducible first | exact HB.out | apply below_alloc | apply pw_below_drewN | apply below_drew1 | refine below_set ?_ GE335.out) | exact HB.out)) hb)
                  clear BK335
                  clear HB
                  have BK335 := n0_
                  have HB := n1_
                  clear n0_ n1_
                  (try clear hb)
                  (try clear hb2)
                  (try clear hk)
                  (try clear hi)
                  refine hK.out _ _ ⟨(blk_cell BK335.out 0).trans rfl, (blk_cell BK335.out 1).trans rfl, (blk_cell BK335.out 2).trans rfl, (blk_cell BK335.out 3).trans rfl⟩ (fun hHeld => ?_)
                  clear hK K
                  refine norm_ (a' := ?_) ?_ ?_
                  rotate_left
                  · show Act.put _ (some 42) _ = _
                    simp only [Act.put, List.setIfInBounds_toArray, List.set_cons_zero, List.set_cons_succ, i64_w, i32_w]
                    rfl
                  refine pure_ (i := 4) (N := some 43) (v := ?_) (a' := ?_) #[true, true, true, true, true, false, false, false, false, false, false, false, false, false, false, false, false, false, false, false, false, false, false, false, false, false, false, false, false, false, false, false, false, false, false] rfl rfl (any_of HT_.out (by kernel_rfl)) (fun _ _ _ h => h) (Or.inl ⟨by rfl, ?_⟩) ?_ ?_
                  rotate_left
                  · intro w'
                    go_simp
                    with_reducible rfl
                  rotate_left
                  · simp only [Act.put, List.setIfInBounds_toArray, List.set_cons_zero, List.set_cons_succ, i64_w, i32_w]
                    rfl
                  refine pure_ (i := 5) (N := some 44) (v := ?_) (a' := ?_) #[true, true, true, true, true, true, false, false, false, false, false, false, false, false, false, false, false, false, false, false, false, false, false, false, false, false, false, false, false, false, false, false, false, false, false] rfl rfl (any_of HT_.out (by kernel_rfl)) (fun _ _ _ h => h) (Or.inl ⟨by rfl, ?_⟩) ?_ ?_
                  rotate_left
                  · intro w'
                    go_simp
                    with_reducible rfl
                  rotate_left
                  · simp only [Act.put, List.setIfInBounds_toArray, List.set_cons_zero, List.set_cons_succ, i64_w, i32_w]
                    rfl
                  refine take_ (i := 6) (N := some 45) (v := ?_) (a' := ?_) #[true, true, true, true, true, true, true, false, false, false, false, false, false, false, false, false, false, false, false, false, false, false, false, false, false, false, false, false, false, false, false, false, false, false, false] rfl rfl (take_ofW HT_.out HW_.out (by kernel_rfl)) (fun _ _ _ h => h) (Or.inl ⟨by rfl, ?_⟩) hHeld ?_ ?_
                  rotate_left
                  · rintro w' ⟨s0, s1, s2, s3⟩
                    go_simp
                    with_reducible rfl
                  rotate_left
                  · simp only [Act.put, List.setIfInBounds_toArray, List.set_cons_zero, List.set_cons_succ, i64_w, i32_w]
                    rfl
                  refine take_ (i := 8) (N := some 47) (v := ?_) (a' := ?_) #[true, true, true, true, true, true, true, false, true, false, false, false, false, false, false, false, false, false, false, false, false, false, false, false, false, false, false, false, false, false, false, false, false, false, false] rfl rfl (take_ofW HT_.out HW_.out (by kernel_rfl)) (fun _ _ _ h => h) (Or.inl ⟨by rfl, ?_⟩) hHeld ?_ ?_
                  rotate_left
                  · rintro w' ⟨s0, s1, s2, s3⟩
                    go_simp
                    with_reducible rfl
                  rotate_left
                  · simp only [Act.put, List.setIfInBounds_toArray, List.set_cons_zero, List.set_cons_succ, i64_w, i32_w]
                    rfl
                  refine one_ (i := 7) (N := some 46) #[true, true, true, true, true, true, true, true, true, false, false, false, false, false, false, false, false, false, false, false, false, false, false, false, false, false, false, false, false, false, false, false, false, false, false] rfl rfl (one_of HT_.out (by kernel_rfl)) (by decide) (fun K hK => ?_)
                  refine goes_ Try.func30 (by kernel_rfl) rfl #[.agg #[.int .i64 a0_0, .slice A0_1 l0_1.length c0_1, .int .i64 a0_2, .int .i64 a0_3]] (by rfl) rfl rfl (by (try simp only [List.map_toArray, List.map_cons, List.map_nil]); first | done | rfl | (simp only [List.length_drop, List.length_take]; rfl)) ?_
                  with_reducible refine (layout_Data.calls a0_0 _ _ l0_1 a0_2 a0_3 t348 _ ?side1 ?side2 A21.out).mono ?_
                  (case side1 => repeat (first | exact (Kd.C_below HR0_1.out HB.out) | (with_reducible refine Kd.C_alloc ?_ _) | (with_reducible refine Kd.C_drewN ?_ _) | (with_reducible refine Kd.C_drew ?_)))
                  (case side2 => exact HC0_1.out)
                  rintro e w44 ⟨rfl, hb⟩
                  refine ⟨_, rfl, ?_⟩
                  have n0_ := Aside0.mk (blk_below (g := gb335) (o := .cells #[.int .i64 a0_0, .slice A0_1 l0_1.length c0_1, .int .i64 a0_2, .int .i64 a0_3] 28 (0, 0)) (by (with_reducible repeat (first | refine blk_drewN ?_ _ | refine blk_drew ?_ | refine blk_alloc ?_ _)); exact BK335.out) hb)
                  have n1_ := Aside0.mk (below_step (by repeat (first | (with_reducible first | exact HB.out | apply below_alloc | apply pw_below_drewN | apply below_drew1 | refine below_set ?_ GE335.out) | exact HB.out)) hb)
                  clear BK335
                  clear HB
                  have BK335 := n0_
                  have HB := n1_
                  clear n0_ n1_
                  (try clear hb)
                  (try clear hb2)
                  (try clear hk)
                  (try clear hi)
                  refine hK.out _ _ ⟨(blk_cell BK335.out 0).trans rfl, (blk_cell BK335.out 1).trans rfl, (blk_cell BK335.out 2).trans rfl, (blk_cell BK335.out 3).trans rfl⟩ (fun hHeld => ?_)
                  clear hK K
                  refine norm_ (a' := ?_) ?_ ?_
                  rotate_left
                  · show Act.put _ (some 46) _ = _
                    simp only [Act.put, List.setIfInBounds_toArray, List.set_cons_zero, List.set_cons_succ, i64_w, i32_w]
                    rfl
                  refine one_ (i := 9) (N := some 48) #[true, true, true, true, true, true, true, true, true, true, false, false, false, false, false, false, false, false, false, false, false, false, false, false, false, false, false, false, false, false, false, false, false, false, false] rfl rfl (one_of HT_.out (by kernel_rfl)) (by decide) (fun K hK => ?_)
                  refine goes_ Try.func23 (by kernel_rfl) rfl #[.agg #[.int .i64 a0_0, .slice A0_1 l0_1.length c0_1, .int .i64 a0_2, .int .i64 a0_3]] (by rfl) rfl rfl (by (try simp only [List.map_toArray, List.map_cons, List.map_nil]); first | done | rfl | (simp only [List.length_drop, List.length_take]; rfl)) ?_
                  with_reducible refine (tegularef21_Width.calls a0_0 _ _ l0_1 a0_2 a0_3 t349 _ ?side1 ?side2 A22.out).mono ?_
                  (case side1 => repeat (first | exact (Kd.C_below HR0_1.out HB.out) | (with_reducible refine Kd.C_alloc ?_ _) | (with_reducible refine Kd.C_drewN ?_ _) | (with_reducible refine Kd.C_drew ?_)))
                  (case side2 => exact HC0_1.out)
                  rintro e w45 ⟨rfl, hb⟩
                  refine ⟨_, rfl, ?_⟩
                  have n0_ := Aside0.mk (blk_below (g := gb335) (o := .cells #[.int .i64 a0_0, .slice A0_1 l0_1.length c0_1, .int .i64 a0_2, .int .i64 a0_3] 28 (0, 0)) (by (with_reducible repeat (first | refine blk_drewN ?_ _ | refine blk_drew ?_ | refine blk_alloc ?_ _)); exact BK335.out) hb)
                  have n1_ := Aside0.mk (below_step (by repeat (first | (with_reducible first | exact HB.out | apply below_alloc | apply pw_below_drewN | apply below_drew1 | refine below_set ?_ GE335.out) | exact HB.out)) hb)
                  clear BK335
                  clear HB
                  have BK335 := n0_
                  have HB := n1_
                  clear n0_ n1_
                  (try clear hb)
                  (try clear hb2)
                  (try clear hk)
                  (try clear hi)
                  refine hK.out _ _ ⟨(blk_cell BK335.out 0).trans rfl, (blk_cell BK335.out 1).trans rfl, (blk_cell BK335.out 2).trans rfl, (blk_cell BK335.out 3).trans rfl⟩ (fun hHeld => ?_)
                  clear hK K
                  refine norm_ (a' := ?_) ?_ ?_
                  rotate_left
                  · show Act.put _ (some 48) _ = _
                    simp only [Act.put, List.setIfInBounds_toArray, List.set_cons_zero, List.set_cons_succ, i64_w, i32_w]
                    rfl
                  refine pure_ (i := 10) (N := some 49) (v := ?_) (a' := ?_) #[true, true, true, true, true, true, true, true, true, true, true, false, false, false, false, false, false, false, false, false, false, false, false, false, false, false, false, false, false, false, false, false, false, false, false] rfl rfl (any_of HT_.out (by kernel_rfl)) (fun _ _ _ h => h) (Or.inl ⟨by rfl, ?_⟩) ?_ ?_
                  rotate_left
                  · intro w'
                    go_simp
                    with_reducible rfl
                  rotate_left
                  · simp only [Act.put, List.setIfInBounds_toArray, List.set_cons_zero, List.set_cons_succ, i64_w, i32_w]
                    rfl
                  refine pure_ (i := 11) (N := some 50) (v := ?_) (a' := ?_) #[true, true, true, true, true, true, true, true, true, true, true, true, false, false, false, false, false, false, false, false, false, false, false, false, false, false, false, false, false, false, false, false, false, false, false] rfl rfl (any_of HT_.out (by kernel_rfl)) (fun _ _ _ h => h) (Or.inl ⟨by rfl, ?_⟩) ?_ ?_
                  rotate_left
                  · intro w'
                    go_simp
                    with_reducible rfl
                  rotate_left
                  · simp only [Act.put, List.setIfInBounds_toArray, List.set_cons_zero, List.set_cons_succ, i64_w, i32_w]
                    rfl
                  refine pure_ (i := 12) (N := some 51) (v := ?_) (a' := ?_) #[true, true, true, true, true, true, true, true, true, true, true, true, true, false, false, false, false, false, false, false, false, false, false, false, false, false, false, false, false, false, false, false, false, false, false] rfl rfl (any_of HT_.out (by kernel_rfl)) (fun _ _ _ h => h) (Or.inl ⟨by rfl, ?_⟩) ?_ ?_
                  rotate_left
                  · intro w'
                    go_simp
                    with_reducible rfl
                  rotate_left
                  · simp only [Act.put, List.setIfInBounds_toArray, List.set_cons_zero, List.set_cons_succ, i64_w, i32_w]
                    rfl
                  refine pure_ (i := 13) (N := some 52) (v := ?_) (a' := ?_) #[true, true, true, true, true, true, true, true, true, true, true, true, true, true, false, false, false, false, false, false, false, false, false, false, false, false, false, false, false, false, false, false, false, false, false] rfl rfl (any_of HT_.out (by kernel_rfl)) (fun _ _ _ h => h) (Or.inl ⟨by rfl, ?_⟩) ?_ ?_
                  rotate_left
                  · intro w'
                    go_simp
                    with_reducible rfl
                  rotate_left
                  · simp only [Act.put, List.setIfInBounds_toArray, List.set_cons_zero, List.set_cons_succ, i64_w, i32_w]
                    rfl
                  refine take_ (i := 14) (N := some 53) (v := ?_) (a' := ?_) #[true, true, true, true, true, true, true, true, true, true, true, true, true, true, true, false, false, false, false, false, false, false, false, false, false, false, false, false, false, false, false, false, false, false, false] rfl rfl (take_ofW HT_.out HW_.out (by kernel_rfl)) (fun _ _ _ h => h) (Or.inl ⟨by rfl, ?_⟩) hHeld ?_ ?_
                  rotate_left
                  · rintro w' ⟨s0, s1, s2, s3⟩
                    go_simp
                    with_reducible rfl
                  rotate_left
                  · simp only [Act.put, List.setIfInBounds_toArray, List.set_cons_zero, List.set_cons_succ, i64_w, i32_w]
                    rfl
                  refine take_ (i := 16) (N := some 55) (v := ?_) (a' := ?_) #[true, true, true, true, true, true, true, true, true, true, true, true, true, true, true, false, true, false, false, false, false, false, false, false, false, false, false, false, false, false, false, false, false, false, false] rfl rfl (take_ofW HT_.out HW_.out (by kernel_rfl)) (fun _ _ _ h => h) (Or.inl ⟨by rfl, ?_⟩) hHeld ?_ ?_
                  rotate_left
                  · rintro w' ⟨s0, s1, s2, s3⟩
                    go_simp
                    with_reducible rfl
                  rotate_left
                  · simp only [Act.put, List.setIfInBounds_toArray, List.set_cons_zero, List.set_cons_succ, i64_w, i32_w]
                    rfl
                  refine one_ (i := 15) (N := some 54) #[true, true, true, true, true, true, true, true, true, true, true, true, true, true, true, true, true, false, false, false, false, false, false, false, false, false, false, false, false, false, false, false, false, false, false] rfl rfl (one_of HT_.out (by kernel_rfl)) (by decide) (fun K hK => ?_)
                  refine goes_ Try.func25 (by kernel_rfl) rfl #[.agg #[.int .i64 a0_0, .slice A0_1 l0_1.length c0_1, .int .i64 a0_2, .int .i64 a0_3]] (by rfl) rfl rfl (by (try simp only [List.map_toArray, List.map_cons, List.map_nil]); first | done | rfl | (simp only [List.length_drop, List.length_take]; rfl)) ?_
                  with_reducible refine (layout_Groups.calls a0_0 _ _ l0_1 a0_2 a0_3 t350 _ ?side1 ?side2 A24.out).mono ?_
                  (case side1 => repeat (first | exact (Kd.C_below HR0_1.out HB.out) | (with_reducible refine Kd.C_alloc ?_ _) | (with_reducible refine Kd.C_drewN ?_ _) | (with_reducible refine Kd.C_drew ?_)))
                  (case side2 => exact HC0_1.out)
                  rintro e w46 ⟨rfl, hb⟩
                  refine ⟨_, rfl, ?_⟩
                  have n0_ := Aside0.mk (blk_below (g := gb335) (o := .cells #[.int .i64 a0_0, .slice A0_1 l0_1.length c0_1, .int .i64 a0_2, .int .i64 a0_3] 28 (0, 0)) (by (with_reducible repeat (first | refine blk_drewN ?_ _ | refine blk_drew ?_ | refine blk_alloc ?_ _)); exact BK335.out) hb)
                  have n1_ := Aside0.mk (below_step (by repeat (first | (with_reducible first | exact HB.out | apply below_alloc | apply pw_below_drewN | apply below_drew1 | refine below_set ?_ GE335.out) | exact HB.out)) hb)
                  clear BK335
                  clear HB
                  have BK335 := n0_
                  have HB := n1_
                  clear n0_ n1_
                  (try clear hb)
                  (try clear hb2)
                  (try clear hk)
                  (try clear hi)
                  refine hK.out _ _ ⟨(blk_cell BK335.out 0).trans rfl, (blk_cell BK335.out 1).trans rfl, (blk_cell BK335.out 2).trans rfl, (blk_cell BK335.out 3).trans rfl⟩ (fun hHeld => ?_)
                  clear hK K
                  refine norm_ (a' := ?_) ?_ ?_
                  rotate_left
                  · show Act.put _ (some 54) _ = _
                    simp only [Act.put, List.setIfInBounds_toArray, List.set_cons_zero, List.set_cons_succ, i64_w, i32_w]
                    rfl
                  refine one_ (i := 17) (N := some 56) #[true, true, true, true, true, true, true, true, true, true, true, true, true, true, true, true, true, true, false, false, false, false, false, false, false, false, false, false, false, false, false, false, false, false, false] rfl rfl (one_of HT_.out (by kernel_rfl)) (by decide) (fun K hK => ?_)
                  refine goes_ Try.func22 (by kernel_rfl) rfl #[.agg #[.int .i64 a0_0, .slice A0_1 l0_1.length c0_1, .int .i64 a0_2, .int .i64 a0_3]] (by rfl) rfl rfl (by (try simp only [List.map_toArray, List.map_cons, List.map_nil]); first | done | rfl | (simp only [List.length_drop, List.length_take]; rfl)) ?_
                  with_reducible refine (tegularef21_Groups.calls a0_0 _ _ l0_1 a0_2 a0_3 t351 _ ?side1 ?side2 A25.out).mono ?_
                  (case side1 => repeat (first | exact (Kd.C_below HR0_1.out HB.out) | (with_reducible refine Kd.C_alloc ?_ _) | (with_reducible refine Kd.C_drewN ?_ _) | (with_reducible refine Kd.C_drew ?_)))
                  (case side2 => exact HC0_1.out)
                  rintro e w47 ⟨rfl, hb⟩
                  refine ⟨_, rfl, ?_⟩
                  have n0_ := Aside0.mk (blk_below (g := gb335) (o := .cells #[.int .i64 a0_0, .slice A0_1 l0_1.length c0_1, .int .i64 a0_2, .int .i64 a0_3] 28 (0, 0)) (by (with_reducible repeat (first | refine blk_drewN ?_ _ | refine blk_drew ?_ | refine blk_alloc ?_ _)); exact BK335.out) hb)
                  have n1_ := Aside0.mk (below_step (by repeat (first | (with_reducible first | exact HB.out | apply below_alloc | apply pw_below_drewN | apply below_drew1 | refine below_set ?_ GE335.out) | exact HB.out)) hb)
                  clear BK335
                  clear HB
                  have BK335 := n0_
                  have HB := n1_
                  clear n0_ n1_
                  (try clear hb)
                  (try clear hb2)
                  (try clear hk)
                  (try clear hi)
                  refine hK.out _ _ ⟨(blk_cell BK335.out 0).trans rfl, (blk_cell BK335.out 1).trans rfl, (blk_cell BK335.out 2).trans rfl, (blk_cell BK335.out 3).trans rfl⟩ (fun hHeld => ?_)
                  clear hK K
                  refine norm_ (a' := ?_) ?_ ?_
                  rotate_left
                  · show Act.put _ (some 56) _ = _
                    simp only [Act.put, List.setIfInBounds_toArray, List.set_cons_zero, List.set_cons_succ, i64_w, i32_w]
                    rfl
                  refine pure_ (i := 18) (N := some 57) (v := ?_) (a' := ?_) #[true, true, true, true, true, true, true, true, true, true, true, true, true, true, true, true, true, true, true, false, false, false, false, false, false, false, false, false, false, false, false, false, false, false, false] rfl rfl (any_of HT_.out (by kernel_rfl)) (fun _ _ _ h => h) (Or.inl ⟨by rfl, ?_⟩) ?_ ?_
                  rotate_left
                  · intro w'
                    go_simp
                    with_reducible rfl
                  rotate_left
                  · simp only [Act.put, List.setIfInBounds_toArray, List.set_cons_zero, List.set_cons_succ, i64_w, i32_w]
                    rfl
                  refine pure_ (i := 19) (N := some 58) (v := ?_) (a' := ?_) #[true, true, true, true, true, true, true, true, true, true, true, true, true, true, true, true, true, true, true, true, false, false, false, false, false, false, false, false, false, false, false, false, false, false, false] rfl rfl (any_of HT_.out (by kernel_rfl)) (fun _ _ _ h => h) (Or.inl ⟨by rfl, ?_⟩) ?_ ?_
                  rotate_left
                  · intro w'
                    go_simp
                    with_reducible rfl
                  rotate_left
                  · simp only [Act.put, List.setIfInBounds_toArray, List.set_cons_zero, List.set_cons_succ, i64_w, i32_w]
                    rfl
                  refine pure_ (i := 20) (N := some 59) (v := ?_) (a' := ?_) #[true, true, true, true, true, true, true, true, true, true, true, true, true, true, true, true, true, true, true, true, true, false, false, false, false, false, false, false, false, false, false, false, false, false, false] rfl rfl (any_of HT_.out (by kernel_rfl)) (fun _ _ _ h => h) (Or.inl ⟨by rfl, ?_⟩) ?_ ?_
                  rotate_left
                  · intro w'
                    go_simp
                    with_reducible rfl
                  rotate_left
                  · simp only [Act.put, List.setIfInBounds_toArray, List.set_cons_zero, List.set_cons_succ, i64_w, i32_w]
                    rfl
                  refine take_ (i := 21) (N := some 60) (v := ?_) (a' := ?_) #[true, true, true, true, true, true, true, true, true, true, true, true, true, true, true, true, true, true, true, true, true, true, false, false, false, false, false, false, false, false, false, false, false, false, false] rfl rfl (take_ofW HT_.out HW_.out (by kernel_rfl)) (fun _ _ _ h => h) (Or.inl ⟨by rfl, ?_⟩) hHeld ?_ ?_
                  rotate_left
                  · rintro w' ⟨s0, s1, s2, s3⟩
                    go_simp
                    with_reducible rfl
                  rotate_left
                  · simp only [Act.put, List.setIfInBounds_toArray, List.set_cons_zero, List.set_cons_succ, i64_w, i32_w]
                    rfl
                  refine take_ (i := 23) (N := some 62) (v := ?_) (a' := ?_) #[true, true, true, true, true, true, true, true, true, true, true, true, true, true, true, true, true, true, true, true, true, true, false, true, false, false, false, false, false, false, false, false, false, false, false] rfl rfl (take_ofW HT_.out HW_.out (by kernel_rfl)) (fun _ _ _ h => h) (Or.inl ⟨by rfl, ?_⟩) hHeld ?_ ?_
                  rotate_left
                  · rintro w' ⟨s0, s1, s2, s3⟩
                    go_simp
                    with_reducible rfl
                  rotate_left
                  · simp only [Act.put, List.setIfInBounds_toArray, List.set_cons_zero, List.set_cons_succ, i64_w, i32_w]
                    rfl
                  refine one_ (i := 22) (N := some 61) #[true, true, true, true, true, true, true, true, true, true, true, true, true, true, true, true, true, true, true, true, true, true, true, true, false, false, false, false, false, false, false, false, false, false, false] rfl rfl (one_of HT_.out (by kernel_rfl)) (by decide) (fun K hK => ?_)
                  refine goes_ Try.func31 (by kernel_rfl) rfl #[.agg #[.int .i64 a0_0, .slice A0_1 l0_1.length c0_1, .int .i64 a0_2, .int .i64 a0_3]] (by rfl) rfl rfl (by (try simp only [List.map_toArray, List.map_cons, List.map_nil]); first | done | rfl | (simp only [List.length_drop, List.length_take]; rfl)) ?_
                  with_reducible refine (layout_Slots.calls a0_0 _ _ l0_1 a0_2 a0_3 t352 _ ?side1 ?side2 A27.out).mono ?_
                  (case side1 => repeat (first | exact (Kd.C_below HR0_1.out HB.out) | (with_reducible refine Kd.C_alloc ?_ _) | (with_reducible refine Kd.C_drewN ?_ _) | (with_reducible refine Kd.C_drew ?_)))
                  (case side2 => exact HC0_1.out)
                  rintro e w48 ⟨rfl, hb⟩
                  refine ⟨_, rfl, ?_⟩
                  have n0_ := Aside0.mk (blk_below (g := gb335) (o := .cells #[.int .i64 a0_0, .slice A0_1 l0_1.length c0_1, .int .i64 a0_2, .int .i64 a0_3] 28 (0, 0)) (by (with_reducible repeat (first | refine blk_drewN ?_ _ | refine blk_drew ?_ | refine blk_alloc ?_ _)); exact BK335.out) hb)
                  have n1_ := Aside0.mk (below_step (by repeat (first | (with_reducible first | exact HB.out | apply below_alloc | apply pw_below_drewN | apply below_drew1 | refine below_set ?_ GE335.out) | exact HB.out)) hb)
                  clear BK335
                  clear HB
                  have BK335 := n0_
                  have HB := n1_
                  clear n0_ n1_
                  (try clear hb)
                  (try clear hb2)
                  (try clear hk)
                  (try clear hi)
                  refine hK.out _ _ ⟨(blk_cell BK335.out 0).trans rfl, (blk_cell BK335.out 1).trans rfl, (blk_cell BK335.out 2).trans rfl, (blk_cell BK335.out 3).trans rfl⟩ (fun hHeld => ?_)
                  clear hK K
                  refine norm_ (a' := ?_) ?_ ?_
                  rotate_left
                  · show Act.put _ (some 61) _ = _
                    simp only [Act.put, List.setIfInBounds_toArray, List.set_cons_zero, List.set_cons_succ, i64_w, i32_w]
                    rfl
                  refine one_ (i := 24) (N := some 63) #[true, true, true, true, true, true, true, true, true, true, true, true, true, true, true, true, true, true, true, true, true, true, true, true, true, false, false, false, false, false, false, false, false, false, false] rfl rfl (one_of HT_.out (by kernel_rfl)) (by decide) (fun K hK => ?_)
                  refine goes_ Try.func32 (by kernel_rfl) rfl #[.agg #[.int .i64 a0_0, .slice A0_1 l0_1.length c0_1, .int .i64 a0_2, .int .i64 a0_3]] (by rfl) rfl rfl (by (try simp only [List.map_toArray, List.map_cons, List.map_nil]); first | done | rfl | (simp only [List.length_drop, List.length_take]; rfl)) ?_
                  with_reducible refine (tegularef21_Slots.calls a0_0 _ _ l0_1 a0_2 a0_3 t353 _ ?side1 ?side2 A28.out).mono ?_
                  (case side1 => repeat (first | exact (Kd.C_below HR0_1.out HB.out) | (with_reducible refine Kd.C_alloc ?_ _) | (with_reducible refine Kd.C_drewN ?_ _) | (with_reducible refine Kd.C_drew ?_)))
                  (case side2 => exact HC0_1.out)
                  rintro e w49 ⟨rfl, hb⟩
                  refine ⟨_, rfl, ?_⟩
                  have n0_ := Aside0.mk (blk_below (g := gb335) (o := .cells #[.int .i64 a0_0, .slice A0_1 l0_1.length c0_1, .int .i64 a0_2, .int .i64 a0_3] 28 (0, 0)) (by (with_reducible repeat (first | refine blk_drewN ?_ _ | refine blk_drew ?_ | refine blk_alloc ?_ _)); exact BK335.out) hb)
                  have n1_ := Aside0.mk (below_step (by repeat (first | (with_reducible first | exact HB.out | apply below_alloc | apply pw_below_drewN | apply below_drew1 | refine below_set ?_ GE335.out) | exact HB.out)) hb)
                  clear BK335
                  clear HB
                  have BK335 := n0_
                  have HB := n1_
                  clear n0_ n1_
                  (try clear hb)
                  (try clear hb2)
                  (try clear hk)
                  (try clear hi)
                  refine hK.out _ _ ⟨(blk_cell BK335.out 0).trans rfl, (blk_cell BK335.out 1).trans rfl, (blk_cell BK335.out 2).trans rfl, (blk_cell BK335.out 3).trans rfl⟩ (fun hHeld => ?_)
                  clear hK K
                  refine norm_ (a' := ?_) ?_ ?_
                  rotate_left
                  · show Act.put _ (some 63) _ = _
                    simp only [Act.put, List.setIfInBounds_toArray, List.set_cons_zero, List.set_cons_succ, i64_w, i32_w]
                    rfl
                  refine pure_ (i := 25) (N := some 64) (v := ?_) (a' := ?_) #[true, true, true, true, true, true, true, true, true, true, true, true, true, true, true, true, true, true, true, true, true, true, true, true, true, true, false, false, false, false, false, false, false, false, false] rfl rfl (any_of HT_.out (by kernel_rfl)) (fun _ _ _ h => h) (Or.inl ⟨by rfl, ?_⟩) ?_ ?_
                  rotate_left
                  · intro w'
                    go_simp
                    with_reducible rfl
                  rotate_left
                  · simp only [Act.put, List.setIfInBounds_toArray, List.set_cons_zero, List.set_cons_succ, i64_w, i32_w]
                    rfl
                  refine pure_ (i := 26) (N := some 65) (v := ?_) (a' := ?_) #[true, true, true, true, true, true, true, true, true, true, true, true, true, true, true, true, true, true, true, true, true, true, true, true, true, true, true, false, false, false, false, false, false, false, false] rfl rfl (any_of HT_.out (by kernel_rfl)) (fun _ _ _ h => h) (Or.inl ⟨by rfl, ?_⟩) ?_ ?_
                  rotate_left
                  · intro w'
                    go_simp
                    with_reducible rfl
                  rotate_left
                  · simp only [Act.put, List.setIfInBounds_toArray, List.set_cons_zero, List.set_cons_succ, i64_w, i32_w]
                    rfl
                  refine pure_ (i := 27) (N := some 66) (v := ?_) (a' := ?_) #[true, true, true, true, true, true, true, true, true, true, true, true, true, true, true, true, true, true, true, true, true, true, true, true, true, true, true, true, false, false, false, false, false, false, false] rfl rfl (any_of HT_.out (by kernel_rfl)) (fun _ _ _ h => h) (Or.inl ⟨by rfl, ?_⟩) ?_ ?_
                  rotate_left
                  · intro w'
                    go_simp
                    with_reducible rfl
                  rotate_left
                  · simp only [Act.put, List.setIfInBounds_toArray, List.set_cons_zero, List.set_cons_succ, i64_w, i32_w]
                    rfl
                  refine take_ (i := 28) (N := some 67) (v := ?_) (a' := ?_) #[true, true, true, true, true, true, true, true, true, true, true, true, true, true, true, true, true, true, true, true, true, true, true, true, true, true, true, true, true, false, false, false, false, false, false] rfl rfl (take_ofW HT_.out HW_.out (by kernel_rfl)) (fun _ _ _ h => h) (Or.inl ⟨by rfl, ?_⟩) hHeld ?_ ?_
                  rotate_left
                  · rintro w' ⟨s0, s1, s2, s3⟩
                    go_simp
                    with_reducible rfl
                  rotate_left
                  · simp only [Act.put, List.setIfInBounds_toArray, List.set_cons_zero, List.set_cons_succ, i64_w, i32_w]
                    rfl
                  refine take_ (i := 30) (N := some 69) (v := ?_) (a' := ?_) #[true, true, true, true, true, true, true, true, true, true, true, true, true, true, true, true, true, true, true, true, true, true, true, true, true, true, true, true, true, false, true, false, false, false, false] rfl rfl (take_ofW HT_.out HW_.out (by kernel_rfl)) (fun _ _ _ h => h) (Or.inl ⟨by rfl, ?_⟩) hHeld ?_ ?_
                  rotate_left
                  · rintro w' ⟨s0, s1, s2, s3⟩
                    go_simp
                    with_reducible rfl
                  rotate_left
                  · simp only [Act.put, List.setIfInBounds_toArray, List.set_cons_zero, List.set_cons_succ, i64_w, i32_w]
                    rfl
                  refine one_ (i := 29) (N := some 68) #[true, true, true, true, true, true, true, true, true, true, true, true, true, true, true, true, true, true, true, true, true, true, true, true, true, true, true, true, true, true, true, false, false, false, false] rfl rfl (one_of HT_.out (by kernel_rfl)) (by decide) (fun K hK => ?_)
                  refine goes_ Try.func24 (by kernel_rfl) rfl #[.agg #[.int .i64 a0_0, .slice A0_1 l0_1.length c0_1, .int .i64 a0_2, .int .i64 a0_3]] (by rfl) rfl rfl (by (try simp only [List.map_toArray, List.map_cons, List.map_nil]); first | done | rfl | (simp only [List.length_drop, List.length_take]; rfl)) ?_
                  with_reducible refine (layout_Blocks.calls a0_0 _ _ l0_1 a0_2 a0_3 t354 _ ?side1 ?side2 A30.out).mono ?_
                  (case side1 => repeat (first | exact (Kd.C_below HR0_1.out HB.out) | (with_reducible refine Kd.C_alloc ?_ _) | (with_reducible refine Kd.C_drewN ?_ _) | (with_reducible refine Kd.C_drew ?_)))
                  (case side2 => exact HC0_1.out)
                  rintro e w50 ⟨rfl, hb⟩
                  refine ⟨_, rfl, ?_⟩
                  have n0_ := Aside0.mk (blk_below (g := gb335) (o := .cells #[.int .i64 a0_0, .slice A0_1 l0_1.length c0_1, .int .i64 a0_2, .int .i64 a0_3] 28 (0, 0)) (by (with_reducible repeat (first | refine blk_drewN ?_ _ | refine blk_drew ?_ | refine blk_alloc ?_ _)); exact BK335.out) hb)
                  have n1_ := Aside0.mk (below_step (by repeat (first | (with_reducible first | exact HB.out | apply below_alloc | apply pw_below_drewN | apply below_drew1 | refine below_set ?_ GE335.out) | exact HB.out)) hb)
                  clear BK335
                  clear HB
                  have BK335 := n0_
                  have HB := n1_
                  clear n0_ n1_
                  (try clear hb)
                  (try clear hb2)
                  (try clear hk)
                  (try clear hi)
                  refine hK.out _ _ ⟨(blk_cell BK335.out 0).trans rfl, (blk_cell BK335.out 1).trans rfl, (blk_cell BK335.out 2).trans rfl, (blk_cell BK335.out 3).trans rfl⟩ (fun hHeld => ?_)
                  clear hK K
                  refine norm_ (a' := ?_) ?_ ?_
                  rotate_left
                  · show Act.put _ (some 68) _ = _
                    simp only [Act.put, List.setIfInBounds_toArray, List.set_cons_zero, List.set_cons_succ, i64_w, i32_w]
                    rfl
                  refine one_ (i := 31) (N := some 70) #[true, true, true, true, true, true, true, true, true, true, true, true, true, true, true, true, true, true, true, true, true, true, true, true, true, true, true, true, true, true, true, true, false, false, false] rfl rfl (one_of HT_.out (by kernel_rfl)) (by decide) (fun K hK => ?_)
                  refine goes_ Try.func19 (by kernel_rfl) rfl #[.agg #[.int .i64 a0_0, .slice A0_1 l0_1.length c0_1, .int .i64 a0_2, .int .i64 a0_3]] (by rfl) rfl rfl (by (try simp only [List.map_toArray, List.map_cons, List.map_nil]); first | done | rfl | (simp only [List.length_drop, List.length_take]; rfl)) ?_
                  with_reducible refine (tegularef21_Blocks.calls a0_0 _ _ l0_1 a0_2 a0_3 t355 _ ?side1 ?side2 A31.out).mono ?_
                  (case side1 => repeat (first | exact (Kd.C_below HR0_1.out HB.out) | (with_reducible refine Kd.C_alloc ?_ _) | (with_reducible refine Kd.C_drewN ?_ _) | (with_reducible refine Kd.C_drew ?_)))
                  (case side2 => exact HC0_1.out)
                  rintro e w51 ⟨rfl, hb⟩
                  refine ⟨_, rfl, ?_⟩
                  have n0_ := Aside0.mk (blk_below (g := gb335) (o := .cells #[.int .i64 a0_0, .slice A0_1 l0_1.length c0_1, .int .i64 a0_2, .int .i64 a0_3] 28 (0, 0)) (by (with_reducible repeat (first | refine blk_drewN ?_ _ | refine blk_drew ?_ | refine blk_alloc ?_ _)); exact BK335.out) hb)
                  have n1_ := Aside0.mk (below_step (by repeat (first | (with_reducible first | exact HB.out | apply below_alloc | apply pw_below_drewN | apply below_drew1 | refine below_set ?_ GE335.out) | exact HB.out)) hb)
                  clear BK335
                  clear HB
                  have BK335 := n0_
                  have HB := n1_
                  clear n0_ n1_
                  (try clear hb)
                  (try clear hb2)
                  (try clear hk)
                  (try clear hi)
                  refine hK.out _ _ ⟨(blk_cell BK335.out 0).trans rfl, (blk_cell BK335.out 1).trans rfl, (blk_cell BK335.out 2).trans rfl, (blk_cell BK335.out 3).trans rfl⟩ (fun hHeld => ?_)
                  clear hK K
                  refine norm_ (a' := ?_) ?_ ?_
                  rotate_left
                  · show Act.put _ (some 70) _ = _
                    simp only [Act.put, List.setIfInBounds_toArray, List.set_cons_zero, List.set_cons_succ, i64_w, i32_w]
                    rfl
                  refine pure_ (i := 32) (N := some 71) (v := ?_) (a' := ?_) #[true, true, true, true, true, true, true, true, true, true, true, true, true, true, true, true, true, true, true, true, true, true, true, true, true, true, true, true, true, true, true, true, true, false, false] rfl rfl (any_of HT_.out (by kernel_rfl)) (fun _ _ _ h => h) (Or.inl ⟨by rfl, ?_⟩) ?_ ?_
                  rotate_left
                  · intro w'
                    go_simp
                    with_reducible rfl
                  rotate_left
                  · simp only [Act.put, List.setIfInBounds_toArray, List.set_cons_zero, List.set_cons_succ, i64_w, i32_w]
                    rfl
                  refine pure_ (i := 33) (N := some 72) (v := ?_) (a' := ?_) #[true, true, true, true, true, true, true, true, true, true, true, true, true, true, true, true, true, true, true, true, true, true, true, true, true, true, true, true, true, true, true, true, true, true, false] rfl rfl (any_of HT_.out (by kernel_rfl)) (fun _ _ _ h => h) (Or.inl ⟨by rfl, ?_⟩) ?_ ?_
                  rotate_left
                  · intro w'
                    go_simp
                    with_reducible rfl
                  rotate_left
                  · simp only [Act.put, List.setIfInBounds_toArray, List.set_cons_zero, List.set_cons_succ, i64_w, i32_w]
                    rfl
                  refine pure_ (i := 34) (N := some 2) (v := ?_) (a' := ?_) #[true, true, true, true, true, true, true, true, true, true, true, true, true, true, true, true, true, true, true, true, true, true, true, true, true, true, true, true, true, true, true, true, true, true, true] rfl rfl (any_of HT_.out (by kernel_rfl)) (fun _ _ _ h => h) (Or.inl ⟨by rfl, ?_⟩) ?_ ?_
                  rotate_left
                  · intro w'
                    go_simp
                    with_reducible rfl
                  rotate_left
                  · simp only [Act.put, List.setIfInBounds_toArray, List.set_cons_zero, List.set_cons_succ, i64_w, i32_w]
                    rfl
                  refine done_ (done_of HT_.out (by kernel_rfl)) ?_
                  try go_wp2
                  go_ret
                  exact ⟨by first | rfl | (simp [errW_none, errW_some] <;> rfl) | (simp [*, errW_none, errW_some] <;> rfl), by repeat (first | (with_reducible first | exact HB.out | apply below_alloc | apply pw_below_drewN | apply below_drew1 | refine below_set ?_ GE335.out) | exact HB.out)⟩
                · rw [if_neg c29] at H
                  have c29b0 : (t352 == t353) = false := beq_eq_false_iff_ne.mpr c29
                  have c29b1 : (t352 != t353) = true := bne_iff_ne.mpr c29
                  obtain rfl := Option.some.inj H
                  cases hrt
              · rw [if_neg c26] at H
                have c26b0 : (t350 == t351) = false := beq_eq_false_iff_ne.mpr c26
                have c26b1 : (t350 != t351) = true := bne_iff_ne.mpr c26
                obtain rfl := Option.some.inj H
                cases hrt
            · rw [if_neg c23] at H
              have c23b0 : (t348 == (wrap64 (t349 - 3))) = false := beq_eq_false_iff_ne.mpr c23
              have c23b1 : (t348 != (wrap64 (t349 - 3))) = true := bne_iff_ne.mpr c23
              obtain rfl := Option.some.inj H
              cases hrt
          · rw [if_neg c20] at H
            have c20b0 : (t346 == t347) = false := beq_eq_false_iff_ne.mpr c20
            have c20b1 : (t346 != t347) = true := bne_iff_ne.mpr c20
            obtain rfl := Option.some.inj H
            cases hrt
        · replace c17 := Bool.eq_false_iff.mpr c17
          subst c17
          have H1 : ((layout_Width.f a0_0 l0_1 a0_2 a0_3).bind fun t341 => (if t341 = 0 then ((layout_Data.f a0_0 l0_1 a0_2 a0_3).bind fun t342 => (if t342 = 0 then ((layout_Groups.f a0_0 l0_1 a0_2 a0_3).bind fun t343 => (if t343 = 0 then ((layout_Slots.f a0_0 l0_1 a0_2 a0_3).bind fun t344 => (if t344 = 0 then ((layout_Blocks.f a0_0 l0_1 a0_2 a0_3).bind fun t345 => (some (t345 == 0))) else (some false))) else (some false))) else (some false))) else (some false))) = some r := by rw [if_neg (show ¬ (false = true) by decide)] at H; exact H
          clear H
          have H := H1
          clear H1
          replace H := Option.bind_eq_some_iff.mp H
          obtain ⟨t341, A1120, H⟩ := H
          replace H : (if t341 = 0 then ((layout_Data.f a0_0 l0_1 a0_2 a0_3).bind fun t342 => (if t342 = 0 then ((layout_Groups.f a0_0 l0_1 a0_2 a0_3).bind fun t343 => (if t343 = 0 then ((layout_Slots.f a0_0 l0_1 a0_2 a0_3).bind fun t344 => (if t344 = 0 then ((layout_Blocks.f a0_0 l0_1 a0_2 a0_3).bind fun t345 => (some (t345 == 0))) else (some false))) else (some false))) else (some false))) else (some false)) = some r := H
          have A112 := Aside0.mk A1120
          clear A1120
          by_cases c113 : t341 = 0
          · rw [if_pos c113] at H
            have c113b0 : (t341 == 0) = true := beq_iff_eq.mpr c113
            have c113b1 : (t341 != 0) = false := bne_eq_false_iff_eq.mpr c113
            clear c113
            replace H := Option.bind_eq_some_iff.mp H
            obtain ⟨t342, A1140, H⟩ := H
            replace H : (if t342 = 0 then ((layout_Groups.f a0_0 l0_1 a0_2 a0_3).bind fun t343 => (if t343 = 0 then ((layout_Slots.f a0_0 l0_1 a0_2 a0_3).bind fun t344 => (if t344 = 0 then ((layout_Blocks.f a0_0 l0_1 a0_2 a0_3).bind fun t345 => (some (t345 == 0))) else (some false))) else (some false))) else (some false)) = some r := H
            have A114 := Aside0.mk A1140
            clear A1140
            by_cases c115 : t342 = 0
            · rw [if_pos c115] at H
              have c115b0 : (t342 == 0) = true := beq_iff_eq.mpr c115
              have c115b1 : (t342 != 0) = false := bne_eq_false_iff_eq.mpr c115
              clear c115
              replace H := Option.bind_eq_some_iff.mp H
              obtain ⟨t343, A1160, H⟩ := H
              replace H : (if t343 = 0 then ((layout_Slots.f a0_0 l0_1 a0_2 a0_3).bind fun t344 => (if t344 = 0 then ((layout_Blocks.f a0_0 l0_1 a0_2 a0_3).bind fun t345 => (some (t345 == 0))) else (some false))) else (some false)) = some r := H
              have A116 := Aside0.mk A1160
              clear A1160
              by_cases c117 : t343 = 0
              · rw [if_pos c117] at H
                have c117b0 : (t343 == 0) = true := beq_iff_eq.mpr c117
                have c117b1 : (t343 != 0) = false := bne_eq_false_iff_eq.mpr c117
                clear c117
                replace H := Option.bind_eq_some_iff.mp H
                obtain ⟨t344, A1180, H⟩ := H
                replace H : (if t344 = 0 then ((layout_Blocks.f a0_0 l0_1 a0_2 a0_3).bind fun t345 => (some (t345 == 0))) else (some false)) = some r := H
                have A118 := Aside0.mk A1180
                clear A1180
                by_cases c119 : t344 = 0
                · rw [if_pos c119] at H
                  have c119b0 : (t344 == 0) = true := beq_iff_eq.mpr c119
                  have c119b1 : (t344 != 0) = false := bne_eq_false_iff_eq.mpr c119
                  clear c119
                  replace H := Option.bind_eq_some_iff.mp H
                  obtain ⟨t345, A1200, H⟩ := H
                  replace H : (some (t345 == 0)) = some r := H
                  have A120 := Aside0.mk A1200
                  clear A1200
                  obtain rfl := Option.some.inj H
                  go_enter Try.func7, Try.ntmps7
                  try go_wp2_with (first | ((with_reducible refine gate_dst (N := 1) rfl ?_); refine box_event ?hg (N := 1) ?hd (cs := #[.int .i64 a0_0, .slice A0_1 l0_1.length c0_1, .int .i64 a0_2, .int .i64 a0_3]) (t := 28) ?hr ?_; (case hd => rfl); (case hg => rfl); (case hr => first | (go_simp; done) | (go_simp; rfl)); intro gb335 hg w121 hbox hb; have n0_ := Aside0.mk (below_step (by repeat (first | (with_reducible first | exact HB.out | apply below_alloc | apply pw_below_drewN | apply below_drew1) | exact HB.out)) hb); have n1_ := Aside0.mk (hbox); have n2_ := Aside0.mk ((by rw [hg]; exact (below_size (by repeat (first | (with_reducible first | exact HB.out | apply below_alloc | apply pw_below_drewN | apply below_drew1) | exact HB.out))) : w.heap.size ≤ gb335)); have n3_ := Aside0.mk ((by rw [hg]; exact (below_size (by repeat (first | (with_reducible first | exact HB.out | apply below_alloc | apply pw_below_drewN | apply below_drew1) | exact HB.out))) : w.heap.size ≤ gb335)); clear HB; have HB := n0_; have BK335 := n1_; have GW335 := n2_; have GE335 := n3_; clear n0_ n1_ n2_ n3_; clear hb hbox hg) | ((with_reducible refine gate_callee (f := 13) rfl ?_); refine goesL_ (some 3) rfl rfl Try.func13 (by kernel_rfl) rfl #[] rfl (by (try simp only [List.map_toArray, List.map_cons, List.map_nil]); first | done | rfl | (simp only [List.length_drop, List.length_take]; rfl)) ?_; (with_reducible refine (tegulalaw21_awake.calls  true _ A2.out).mono ?_); rintro e w122 ⟨rfl, hb⟩; refine ⟨_, rfl, ?_⟩; have n0_ := Aside0.mk (blk_below (g := gb335) (o := .cells #[.int .i64 a0_0, .slice A0_1 l0_1.length c0_1, .int .i64 a0_2, .int .i64 a0_3] 28 (0, 0)) (by (with_reducible repeat (first | refine blk_drewN ?_ _ | refine blk_drew ?_ | refine blk_alloc ?_ _)); exact BK335.out) hb); have n1_ := Aside0.mk (below_step (by repeat (first | (with_reducible first | exact HB.out | apply below_alloc | apply pw_below_drewN | apply below_drew1 | refine below_set ?_ GE335.out) | exact HB.out)) hb); clear BK335; clear HB; have BK335 := n0_; have HB := n1_; clear n0_ n1_; (try clear hb); (try clear hb2); (try clear hk); (try clear hi); have hcz123_0 : w122.cell? ⟨gb335, 0, none⟩ = some (.int .i64 a0_0) := (blk_cell BK335.out 0).trans rfl; have hcz123_1 : w122.cell? ⟨gb335, 1, none⟩ = some (.slice A0_1 l0_1.length c0_1) := (blk_cell BK335.out 1).trans rfl; have hcz123_2 : w122.cell? ⟨gb335, 2, none⟩ = some (.int .i64 a0_2) := (blk_cell BK335.out 2).trans rfl; have hcz123_3 : w122.cell? ⟨gb335, 3, none⟩ = some (.int .i64 a0_3) := (blk_cell BK335.out 3).trans rfl; have hfz123_0 := blk_frozen BK335.out 0; have hfz123_1 := blk_frozen BK335.out 1; have hfz123_2 := blk_frozen BK335.out 2; have hfz123_3 := blk_frozen BK335.out 3) | ((with_reducible refine gate_callee (f := 27) rfl ?_); refine goesL_ (some 6) rfl rfl Try.func27 (by kernel_rfl) rfl #[.agg #[.int .i64 a0_0, .slice A0_1 l0_1.length c0_1, .int .i64 a0_2, .int .i64 a0_3]] rfl (by (try simp only [List.map_toArray, List.map_cons, List.map_nil]); first | done | rfl | (simp only [List.length_drop, List.length_take]; rfl)) ?_; (with_reducible refine (tegulalaw21_few.calls k a0_0 _ _ l0_1 a0_2 a0_3 true _ ?side1 ?side2 A4.out).mono ?_); (case side1 => repeat (first | exact (Kd.C_below HR0_1.out HB.out) | (with_reducible refine Kd.C_alloc ?_ _) | (with_reducible refine Kd.C_drewN ?_ _) | (with_reducible refine Kd.C_drew ?_))); (case side2 => exact HC0_1.out); rintro e w124 ⟨rfl, hb⟩; refine ⟨_, rfl, ?_⟩; have n0_ := Aside0.mk (blk_below (g := gb335) (o := .cells #[.int .i64 a0_0, .slice A0_1 l0_1.length c0_1, .int .i64 a0_2, .int .i64 a0_3] 28 (0, 0)) (by (with_reducible repeat (first | refine blk_drewN ?_ _ | refine blk_drew ?_ | refine blk_alloc ?_ _)); exact BK335.out) hb); have n1_ := Aside0.mk (below_step (by repeat (first | (with_reducible first | exact HB.out | apply below_alloc | apply pw_below_drewN | apply below_drew1 | refine below_set ?_ GE335.out) | exact HB.out)) hb); clear BK335; clear HB; have BK335 := n0_; have HB := n1_; clear n0_ n1_; (try clear hb); (try clear hb2); (try clear hk); (try clear hi)))
                  have n0_ := Aside0.mk (blk_drew BK335.out)
                  have n1_ := Aside0.mk (below_drew1 HB.out)
                  clear BK335
                  clear HB
                  have BK335 := n0_
                  have HB := n1_
                  clear n0_ n1_
                  refine start_ (n := 5) (S := fun w' => w'.cell? ⟨gb335, 0, none⟩ = some (.int .i64 a0_0) ∧ w'.cell? ⟨gb335, 1, none⟩ = some (.slice A0_1 l0_1.length c0_1) ∧ w'.cell? ⟨gb335, 2, none⟩ = some (.int .i64 a0_2) ∧ w'.cell? ⟨gb335, 3, none⟩ = some (.int .i64 a0_3)) (ds := []) #[false, false, false, false, false] (by kernel_rfl) rfl rfl ⟨(blk_cell BK335.out 0).trans rfl, (blk_cell BK335.out 1).trans rfl, (blk_cell BK335.out 2).trans rfl, (blk_cell BK335.out 3).trans rfl⟩ (fun hHeld => ?_)
                  generalize w124.drew = w125 at BK335 HB hHeld ⊢
                  refine take_ (i := 0) (N := some 8) (v := ?_) (a' := ?_) #[true, false, false, false, false] rfl rfl (by kernel_rfl) (fun _ _ _ h => h) (Or.inl ⟨by rfl, ?_⟩) hHeld ?_ ?_
                  rotate_left
                  · rintro w' ⟨s0, s1, s2, s3⟩
                    go_simp
                    with_reducible rfl
                  rotate_left
                  · simp only [Act.put, List.setIfInBounds_toArray, List.set_cons_zero, List.set_cons_succ, i64_w, i32_w]
                    rfl
                  refine take_ (i := 2) (N := some 10) (v := ?_) (a' := ?_) #[true, false, true, false, false] rfl rfl (by kernel_rfl) (fun _ _ _ h => h) (Or.inl ⟨by rfl, ?_⟩) hHeld ?_ ?_
                  rotate_left
                  · rintro w' ⟨s0, s1, s2, s3⟩
                    go_simp
                    with_reducible rfl
                  rotate_left
                  · simp only [Act.put, List.setIfInBounds_toArray, List.set_cons_zero, List.set_cons_succ, i64_w, i32_w]
                    rfl
                  refine one_ (i := 1) (N := some 9) #[true, true, true, false, false] rfl rfl (by kernel_rfl) (by decide) (fun K hK => ?_)
                  refine goes_ Try.func28 (by kernel_rfl) rfl #[.agg #[.int .i64 a0_0, .slice A0_1 l0_1.length c0_1, .int .i64 a0_2, .int .i64 a0_3]] (by rfl) rfl rfl (by (try simp only [List.map_toArray, List.map_cons, List.map_nil]); first | done | rfl | (simp only [List.length_drop, List.length_take]; rfl)) ?_
                  with_reducible refine (layout_Valid.calls a0_0 _ _ l0_1 a0_2 a0_3 t338 _ ?side1 ?side2 A6.out).mono ?_
                  (case side1 => repeat (first | exact (Kd.C_below HR0_1.out HB.out) | (with_reducible refine Kd.C_alloc ?_ _) | (with_reducible refine Kd.C_drewN ?_ _) | (with_reducible refine Kd.C_drew ?_)))
                  (case side2 => exact HC0_1.out)
                  rintro e w126 ⟨rfl, hb⟩
                  refine ⟨_, rfl, ?_⟩
                  have n0_ := Aside0.mk (blk_below (g := gb335) (o := .cells #[.int .i64 a0_0, .slice A0_1 l0_1.length c0_1, .int .i64 a0_2, .int .i64 a0_3] 28 (0, 0)) (by (with_reducible repeat (first | refine blk_drewN ?_ _ | refine blk_drew ?_ | refine blk_alloc ?_ _)); exact BK335.out) hb)
                  have n1_ := Aside0.mk (below_step (by repeat (first | (with_reducible first | exact HB.out | apply below_alloc | apply pw_below_drewN | apply below_drew1 | refine below_set ?_ GE335.out) | exact HB.out)) hb)
                  clear BK335
                  clear HB
                  have BK335 := n0_
                  have HB := n1_
                  clear n0_ n1_
                  (try clear hb)
                  (try clear hb2)
                  (try clear hk)
                  (try clear hi)
                  refine hK.out _ _ ⟨(blk_cell BK335.out 0).trans rfl, (blk_cell BK335.out 1).trans rfl, (blk_cell BK335.out 2).trans rfl, (blk_cell BK335.out 3).trans rfl⟩ (fun hHeld => ?_)
                  clear hK K
                  refine norm_ (a' := ?_) ?_ ?_
                  rotate_left
                  · show Act.put _ (some 9) _ = _
                    simp only [Act.put, List.setIfInBounds_toArray, List.set_cons_zero, List.set_cons_succ, i64_w, i32_w]
                    rfl
                  refine one_ (i := 3) (N := some 11) #[true, true, true, true, false] rfl rfl (by kernel_rfl) (by decide) (fun K hK => ?_)
                  refine goes_ Try.func29 (by kernel_rfl) rfl #[.agg #[.int .i64 a0_0, .slice A0_1 l0_1.length c0_1, .int .i64 a0_2, .int .i64 a0_3]] (by rfl) rfl rfl (by (try simp only [List.map_toArray, List.map_cons, List.map_nil]); first | done | rfl | (simp only [List.length_drop, List.length_take]; rfl)) ?_
                  with_reducible refine (tegularef21_Valid.calls a0_0 _ _ l0_1 a0_2 a0_3 t339 _ ?side1 ?side2 A7.out).mono ?_
                  (case side1 => repeat (first | exact (Kd.C_below HR0_1.out HB.out) | (with_reducible refine Kd.C_alloc ?_ _) | (with_reducible refine Kd.C_drewN ?_ _) | (with_reducible refine Kd.C_drew ?_)))
                  (case side2 => exact HC0_1.out)
                  rintro e w127 ⟨rfl, hb⟩
                  refine ⟨_, rfl, ?_⟩
                  have n0_ := Aside0.mk (blk_below (g := gb335) (o := .cells #[.int .i64 a0_0, .slice A0_1 l0_1.length c0_1, .int .i64 a0_2, .int .i64 a0_3] 28 (0, 0)) (by (with_reducible repeat (first | refine blk_drewN ?_ _ | refine blk_drew ?_ | refine blk_alloc ?_ _)); exact BK335.out) hb)
                  have n1_ := Aside0.mk (below_step (by repeat (first | (with_reducible first | exact HB.out | apply below_alloc | apply pw_below_drewN | apply below_drew1 | refine below_set ?_ GE335.out) | exact HB.out)) hb)
                  clear BK335
                  clear HB
                  have BK335 := n0_
                  have HB := n1_
                  clear n0_ n1_
                  (try clear hb)
                  (try clear hb2)
                  (try clear hk)
                  (try clear hi)
                  refine hK.out _ _ ⟨(blk_cell BK335.out 0).trans rfl, (blk_cell BK335.out 1).trans rfl, (blk_cell BK335.out 2).trans rfl, (blk_cell BK335.out 3).trans rfl⟩ (fun hHeld => ?_)
                  clear hK K
                  refine norm_ (a' := ?_) ?_ ?_
                  rotate_left
                  · show Act.put _ (some 11) _ = _
                    simp only [Act.put, List.setIfInBounds_toArray, List.set_cons_zero, List.set_cons_succ, i64_w, i32_w]
                    rfl
                  refine pure_ (i := 4) (N := some 12) (v := ?_) (a' := ?_) #[true, true, true, true, true] rfl rfl (by kernel_rfl) (fun _ _ _ h => h) (Or.inl ⟨by rfl, ?_⟩) ?_ ?_
                  rotate_left
                  · intro w'
                    go_simp
                    with_reducible rfl
                  rotate_left
                  · simp only [Act.put, List.setIfInBounds_toArray, List.set_cons_zero, List.set_cons_succ, i64_w, i32_w]
                    rfl
                  refine done_ (by kernel_rfl) ?_
                  have hcz128_0 : w127.cell? ⟨gb335, 0, none⟩ = some (.int .i64 a0_0) := (blk_cell BK335.out 0).trans rfl
                  have hcz128_1 : w127.cell? ⟨gb335, 1, none⟩ = some (.slice A0_1 l0_1.length c0_1) := (blk_cell BK335.out 1).trans rfl
                  have hcz128_2 : w127.cell? ⟨gb335, 2, none⟩ = some (.int .i64 a0_2) := (blk_cell BK335.out 2).trans rfl
                  have hcz128_3 : w127.cell? ⟨gb335, 3, none⟩ = some (.int .i64 a0_3) := (blk_cell BK335.out 3).trans rfl
                  have hfz128_0 := blk_frozen BK335.out 0
                  have hfz128_1 := blk_frozen BK335.out 1
                  have hfz128_2 := blk_frozen BK335.out 2
                  have hfz128_3 := blk_frozen BK335.out 3
                  try go_wp2_with (first | ((with_reducible refine gate_callee (f := 29) rfl ?_); refine goesL_ (some 14) rfl rfl Try.func29 (by kernel_rfl) rfl #[.agg #[.int .i64 a0_0, .slice A0_1 l0_1.length c0_1, .int .i64 a0_2, .int .i64 a0_3]] rfl (by (try simp only [List.map_toArray, List.map_cons, List.map_nil]); first | done | rfl | (simp only [List.length_drop, List.length_take]; rfl)) ?_; (with_reducible refine (tegularef21_Valid.calls a0_0 _ _ l0_1 a0_2 a0_3 false _ ?side1 ?side2 A16.out).mono ?_); (case side1 => repeat (first | exact (Kd.C_below HR0_1.out HB.out) | (with_reducible refine Kd.C_alloc ?_ _) | (with_reducible refine Kd.C_drewN ?_ _) | (with_reducible refine Kd.C_drew ?_))); (case side2 => exact HC0_1.out); rintro e w129 ⟨rfl, hb⟩; refine ⟨_, rfl, ?_⟩; have n0_ := Aside0.mk (blk_below (g := gb335) (o := .cells #[.int .i64 a0_0, .slice A0_1 l0_1.length c0_1, .int .i64 a0_2, .int .i64 a0_3] 28 (0, 0)) (by (with_reducible repeat (first | refine blk_drewN ?_ _ | refine blk_drew ?_ | refine blk_alloc ?_ _)); exact BK335.out) hb); have n1_ := Aside0.mk (below_step (by repeat (first | (with_reducible first | exact HB.out | apply below_alloc | apply pw_below_drewN | apply below_drew1 | refine below_set ?_ GE335.out) | exact HB.out)) hb); clear BK335; clear HB; have BK335 := n0_; have HB := n1_; clear n0_ n1_; (try clear hb); (try clear hb2); (try clear hk); (try clear hi); have hcz130_0 : w129.cell? ⟨gb335, 0, none⟩ = some (.int .i64 a0_0) := (blk_cell BK335.out 0).trans rfl; have hcz130_1 : w129.cell? ⟨gb335, 1, none⟩ = some (.slice A0_1 l0_1.length c0_1) := (blk_cell BK335.out 1).trans rfl; have hcz130_2 : w129.cell? ⟨gb335, 2, none⟩ = some (.int .i64 a0_2) := (blk_cell BK335.out 2).trans rfl; have hcz130_3 : w129.cell? ⟨gb335, 3, none⟩ = some (.int .i64 a0_3) := (blk_cell BK335.out 3).trans rfl; have hfz130_0 := blk_frozen BK335.out 0; have hfz130_1 := blk_frozen BK335.out 1; have hfz130_2 := blk_frozen BK335.out 2; have hfz130_3 := blk_frozen BK335.out 3) | ((with_reducible refine gate_callee (f := 26) rfl ?_); refine goesL_ (some 17) rfl rfl Try.func26 (by kernel_rfl) rfl #[.agg #[.int .i64 a0_0, .slice A0_1 l0_1.length c0_1, .int .i64 a0_2, .int .i64 a0_3]] rfl (by (try simp only [List.map_toArray, List.map_cons, List.map_nil]); first | done | rfl | (simp only [List.length_drop, List.length_take]; rfl)) ?_; (with_reducible refine (layout_Width.calls a0_0 _ _ l0_1 a0_2 a0_3 t341 _ ?side1 ?side2 A112.out).mono ?_); (case side1 => repeat (first | exact (Kd.C_below HR0_1.out HB.out) | (with_reducible refine Kd.C_alloc ?_ _) | (with_reducible refine Kd.C_drewN ?_ _) | (with_reducible refine Kd.C_drew ?_))); (case side2 => exact HC0_1.out); rintro e w131 ⟨rfl, hb⟩; refine ⟨_, rfl, ?_⟩; have n0_ := Aside0.mk (blk_below (g := gb335) (o := .cells #[.int .i64 a0_0, .slice A0_1 l0_1.length c0_1, .int .i64 a0_2, .int .i64 a0_3] 28 (0, 0)) (by (with_reducible repeat (first | refine blk_drewN ?_ _ | refine blk_drew ?_ | refine blk_alloc ?_ _)); exact BK335.out) hb); have n1_ := Aside0.mk (below_step (by repeat (first | (with_reducible first | exact HB.out | apply below_alloc | apply pw_below_drewN | apply below_drew1 | refine below_set ?_ GE335.out) | exact HB.out)) hb); clear BK335; clear HB; have BK335 := n0_; have HB := n1_; clear n0_ n1_; (try clear hb); (try clear hb2); (try clear hk); (try clear hi); have hcz132_0 : w131.cell? ⟨gb335, 0, none⟩ = some (.int .i64 a0_0) := (blk_cell BK335.out 0).trans rfl; have hcz132_1 : w131.cell? ⟨gb335, 1, none⟩ = some (.slice A0_1 l0_1.length c0_1) := (blk_cell BK335.out 1).trans rfl; have hcz132_2 : w131.cell? ⟨gb335, 2, none⟩ = some (.int .i64 a0_2) := (blk_cell BK335.out 2).trans rfl; have hcz132_3 : w131.cell? ⟨gb335, 3, none⟩ = some (.int .i64 a0_3) := (blk_cell BK335.out 3).trans rfl; have hfz132_0 := blk_frozen BK335.out 0; have hfz132_1 := blk_frozen BK335.out 1; have hfz132_2 := blk_frozen BK335.out 2; have hfz132_3 := blk_frozen BK335.out 3) | (go_at_call 30; (with_reducible refine (layout_Data.calls a0_0 _ _ l0_1 a0_2 a0_3 t342 _ ?side1 ?side2 A114.out).mono ?_); (case side1 => repeat (first | exact (Kd.C_below HR0_1.out HB.out) | (with_reducible refine Kd.C_alloc ?_ _) | (with_reducible refine Kd.C_drewN ?_ _) | (with_reducible refine Kd.C_drew ?_))); (case side2 => exact HC0_1.out); rintro e w133 ⟨rfl, hb⟩; have n0_ := Aside0.mk (blk_below (g := gb335) (o := .cells #[.int .i64 a0_0, .slice A0_1 l0_1.length c0_1, .int .i64 a0_2, .int .i64 a0_3] 28 (0, 0)) (by (with_reducible repeat (first | refine blk_drewN ?_ _ | refine blk_drew ?_ | refine blk_alloc ?_ _)); exact BK335.out) hb); have n1_ := Aside0.mk (below_step (by repeat (first | (with_reducible first | exact HB.out | apply below_alloc | apply pw_below_drewN | apply below_drew1 | refine below_set ?_ GE335.out) | exact HB.out)) hb); clear BK335; clear HB; have BK335 := n0_; have HB := n1_; clear n0_ n1_; (try clear hb); (try clear hb2); (try clear hk); (try clear hi); have hcz134_0 : w133.cell? ⟨gb335, 0, none⟩ = some (.int .i64 a0_0) := (blk_cell BK335.out 0).trans rfl; have hcz134_1 : w133.cell? ⟨gb335, 1, none⟩ = some (.slice A0_1 l0_1.length c0_1) := (blk_cell BK335.out 1).trans rfl; have hcz134_2 : w133.cell? ⟨gb335, 2, none⟩ = some (.int .i64 a0_2) := (blk_cell BK335.out 2).trans rfl; have hcz134_3 : w133.cell? ⟨gb335, 3, none⟩ = some (.int .i64 a0_3) := (blk_cell BK335.out 3).trans rfl; have hfz134_0 := blk_frozen BK335.out 0; have hfz134_1 := blk_frozen BK335.out 1; have hfz134_2 := blk_frozen BK335.out 2; have hfz134_3 := blk_frozen BK335.out 3) | (go_at_call 25; (with_reducible refine (layout_Groups.calls a0_0 _ _ l0_1 a0_2 a0_3 t343 _ ?side1 ?side2 A116.out).mono ?_); (case side1 => repeat (first | exact (Kd.C_below HR0_1.out HB.out) | (with_reducible refine Kd.C_alloc ?_ _) | (with_reducible refine Kd.C_drewN ?_ _) | (with_reducible refine Kd.C_drew ?_))); (case side2 => exact HC0_1.out); rintro e w135 ⟨rfl, hb⟩; have n0_ := Aside0.mk (blk_below (g := gb335) (o := .cells #[.int .i64 a0_0, .slice A0_1 l0_1.length c0_1, .int .i64 a0_2, .int .i64 a0_3] 28 (0, 0)) (by (with_reducible repeat (first | refine blk_drewN ?_ _ | refine blk_drew ?_ | refine blk_alloc ?_ _)); exact BK335.out) hb); have n1_ := Aside0.mk (below_step (by repeat (first | (with_reducible first | exact HB.out | apply below_alloc | apply pw_below_drewN | apply below_drew1 | refine below_set ?_ GE335.out) | exact HB.out)) hb); clear BK335; clear HB; have BK335 := n0_; have HB := n1_; clear n0_ n1_; (try clear hb); (try clear hb2); (try clear hk); (try clear hi); have hcz136_0 : w135.cell? ⟨gb335, 0, none⟩ = some (.int .i64 a0_0) := (blk_cell BK335.out 0).trans rfl; have hcz136_1 : w135.cell? ⟨gb335, 1, none⟩ = some (.slice A0_1 l0_1.length c0_1) := (blk_cell BK335.out 1).trans rfl; have hcz136_2 : w135.cell? ⟨gb335, 2, none⟩ = some (.int .i64 a0_2) := (blk_cell BK335.out 2).trans rfl; have hcz136_3 : w135.cell? ⟨gb335, 3, none⟩ = some (.int .i64 a0_3) := (blk_cell BK335.out 3).trans rfl; have hfz136_0 := blk_frozen BK335.out 0; have hfz136_1 := blk_frozen BK335.out 1; have hfz136_2 := blk_frozen BK335.out 2; have hfz136_3 := blk_frozen BK335.out 3) | (go_at_call 31; (with_reducible refine (layout_Slots.calls a0_0 _ _ l0_1 a0_2 a0_3 t344 _ ?side1 ?side2 A118.out).mono ?_); (case side1 => repeat (first | exact (Kd.C_below HR0_1.out HB.out) | (with_reducible refine Kd.C_alloc ?_ _) | (with_reducible refine Kd.C_drewN ?_ _) | (with_reducible refine Kd.C_drew ?_))); (case side2 => exact HC0_1.out); rintro e w137 ⟨rfl, hb⟩; have n0_ := Aside0.mk (blk_below (g := gb335) (o := .cells #[.int .i64 a0_0, .slice A0_1 l0_1.length c0_1, .int .i64 a0_2, .int .i64 a0_3] 28 (0, 0)) (by (with_reducible repeat (first | refine blk_drewN ?_ _ | refine blk_drew ?_ | refine blk_alloc ?_ _)); exact BK335.out) hb); have n1_ := Aside0.mk (below_step (by repeat (first | (with_reducible first | exact HB.out | apply below_alloc | apply pw_below_drewN | apply below_drew1 | refine below_set ?_ GE335.out) | exact HB.out)) hb); clear BK335; clear HB; have BK335 := n0_; have HB := n1_; clear n0_ n1_; (try clear hb); (try clear hb2); (try clear hk); (try clear hi); have hcz138_0 : w137.cell? ⟨gb335, 0, none⟩ = some (.int .i64 a0_0) := (blk_cell BK335.out 0).trans rfl; have hcz138_1 : w137.cell? ⟨gb335, 1, none⟩ = some (.slice A0_1 l0_1.length c0_1) := (blk_cell BK335.out 1).trans rfl; have hcz138_2 : w137.cell? ⟨gb335, 2, none⟩ = some (.int .i64 a0_2) := (blk_cell BK335.out 2).trans rfl; have hcz138_3 : w137.cell? ⟨gb335, 3, none⟩ = some (.int .i64 a0_3) := (blk_cell BK335.out 3).trans rfl; have hfz138_0 := blk_frozen BK335.out 0; have hfz138_1 := blk_frozen BK335.out 1; have hfz138_2 := blk_frozen BK335.out 2; have hfz138_3 := blk_frozen BK335.out 3) | (go_at_call 24; (with_reducible refine (layout_Blocks.calls a0_0 _ _ l0_1 a0_2 a0_3 t345 _ ?side1 ?side2 A120.out).mono ?_); (case side1 => repeat (first | exact (Kd.C_below HR0_1.out HB.out) | (with_reducible refine Kd.C_alloc ?_ _) | (with_reducible refine Kd.C_drewN ?_ _) | (with_reducible refine Kd.C_drew ?_))); (case side2 => exact HC0_1.out); rintro e w139 ⟨rfl, hb⟩; have n0_ := Aside0.mk (blk_below (g := gb335) (o := .cells #[.int .i64 a0_0, .slice A0_1 l0_1.length c0_1, .int .i64 a0_2, .int .i64 a0_3] 28 (0, 0)) (by (with_reducible repeat (first | refine blk_drewN ?_ _ | refine blk_drew ?_ | refine blk_alloc ?_ _)); exact BK335.out) hb); have n1_ := Aside0.mk (below_step (by repeat (first | (with_reducible first | exact HB.out | apply below_alloc | apply pw_below_drewN | apply below_drew1 | refine below_set ?_ GE335.out) | exact HB.out)) hb); clear BK335; clear HB; have BK335 := n0_; have HB := n1_; clear n0_ n1_; (try clear hb); (try clear hb2); (try clear hk); (try clear hi)))
                  go_ret
                  exact ⟨by first | rfl | (simp [errW_none, errW_some] <;> rfl) | (simp [*, errW_none, errW_some] <;> rfl), by repeat (first | (with_reducible first | exact HB.out | apply below_alloc | apply pw_below_drewN | apply below_drew1 | refine below_set ?_ GE335.out) | exact HB.out)⟩
                · rw [if_neg c119] at H
                  have c119b0 : (t344 == 0) = false := beq_eq_false_iff_ne.mpr c119
                  have c119b1 : (t344 != 0) = true := bne_iff_ne.mpr c119
                  obtain rfl := Option.some.inj H
                  cases hrt
              · rw [if_neg c117] at H
                have c117b0 : (t343 == 0) = false := beq_eq_false_iff_ne.mpr c117
                have c117b1 : (t343 != 0) = true := bne_iff_ne.mpr c117
                obtain rfl := Option.some.inj H
                cases hrt
            · rw [if_neg c115] at H
              have c115b0 : (t342 == 0) = false := beq_eq_false_iff_ne.mpr c115
              have c115b1 : (t342 != 0) = true := bne_iff_ne.mpr c115
              obtain rfl := Option.some.inj H
              cases hrt
          · rw [if_neg c113] at H
            have c113b0 : (t341 == 0) = false := beq_eq_false_iff_ne.mpr c113
            have c113b1 : (t341 != 0) = true := bne_iff_ne.mpr c113
            obtain rfl := Option.some.inj H
            cases hrt
    · replace c5 := Bool.eq_false_iff.mpr c5
      subst c5
      have H1 : (some true) = some r := by rw [if_neg (show ¬ (false = true) by decide)] at H; exact H
      clear H
      have H := H1
      clear H1
      obtain rfl := Option.some.inj H
      go_enter Try.func7, Try.ntmps7
      go_wp2_with (first | ((with_reducible refine gate_dst (N := 1) rfl ?_); refine box_event ?hg (N := 1) ?hd (cs := #[.int .i64 a0_0, .slice A0_1 l0_1.length c0_1, .int .i64 a0_2, .int .i64 a0_3]) (t := 28) ?hr ?_; (case hd => rfl); (case hg => rfl); (case hr => first | (go_simp; done) | (go_simp; rfl)); intro gb335 hg w196 hbox hb; have n0_ := Aside0.mk (below_step (by repeat (first | (with_reducible first | exact HB.out | apply below_alloc | apply pw_below_drewN | apply below_drew1) | exact HB.out)) hb); have n1_ := Aside0.mk (hbox); have n2_ := Aside0.mk ((by rw [hg]; exact (below_size (by repeat (first | (with_reducible first | exact HB.out | apply below_alloc | apply pw_below_drewN | apply below_drew1) | exact HB.out))) : w.heap.size ≤ gb335)); have n3_ := Aside0.mk ((by rw [hg]; exact (below_size (by repeat (first | (with_reducible first | exact HB.out | apply below_alloc | apply pw_below_drewN | apply below_drew1) | exact HB.out))) : w.heap.size ≤ gb335)); clear HB; have HB := n0_; have BK335 := n1_; have GW335 := n2_; have GE335 := n3_; clear n0_ n1_ n2_ n3_; clear hb hbox hg) | ((with_reducible refine gate_callee (f := 13) rfl ?_); refine goesL_ (some 3) rfl rfl Try.func13 (by kernel_rfl) rfl #[] rfl (by (try simp only [List.map_toArray, List.map_cons, List.map_nil]); first | done | rfl | (simp only [List.length_drop, List.length_take]; rfl)) ?_; (with_reducible refine (tegulalaw21_awake.calls  true _ A2.out).mono ?_); rintro e w197 ⟨rfl, hb⟩; refine ⟨_, rfl, ?_⟩; have n0_ := Aside0.mk (blk_below (g := gb335) (o := .cells #[.int .i64 a0_0, .slice A0_1 l0_1.length c0_1, .int .i64 a0_2, .int .i64 a0_3] 28 (0, 0)) (by (with_reducible repeat (first | refine blk_drewN ?_ _ | refine blk_drew ?_ | refine blk_alloc ?_ _)); exact BK335.out) hb); have n1_ := Aside0.mk (below_step (by repeat (first | (with_reducible first | exact HB.out | apply below_alloc | apply pw_below_drewN | apply below_drew1 | refine below_set ?_ GE335.out) | exact HB.out)) hb); clear BK335; clear HB; have BK335 := n0_; have HB := n1_; clear n0_ n1_; (try clear hb); (try clear hb2); (try clear hk); (try clear hi); have hcz198_0 : w197.cell? ⟨gb335, 0, none⟩ = some (.int .i64 a0_0) := (blk_cell BK335.out 0).trans rfl; have hcz198_1 : w197.cell? ⟨gb335, 1, none⟩ = some (.slice A0_1 l0_1.length c0_1) := (blk_cell BK335.out 1).trans rfl; have hcz198_2 : w197.cell? ⟨gb335, 2, none⟩ = some (.int .i64 a0_2) := (blk_cell BK335.out 2).trans rfl; have hcz198_3 : w197.cell? ⟨gb335, 3, none⟩ = some (.int .i64 a0_3) := (blk_cell BK335.out 3).trans rfl; have hfz198_0 := blk_frozen BK335.out 0; have hfz198_1 := blk_frozen BK335.out 1; have hfz198_2 := blk_frozen BK335.out 2; have hfz198_3 := blk_frozen BK335.out 3) | ((with_reducible refine gate_callee (f := 27) rfl ?_); refine goesL_ (some 6) rfl rfl Try.func27 (by kernel_rfl) rfl #[.agg #[.int .i64 a0_0, .slice A0_1 l0_1.length c0_1, .int .i64 a0_2, .int .i64 a0_3]] rfl (by (try simp only [List.map_toArray, List.map_cons, List.map_nil]); first | done | rfl | (simp only [List.length_drop, List.length_take]; rfl)) ?_; (with_reducible refine (tegulalaw21_few.calls k a0_0 _ _ l0_1 a0_2 a0_3 false _ ?side1 ?side2 A4.out).mono ?_); (case side1 => repeat (first | exact (Kd.C_below HR0_1.out HB.out) | (with_reducible refine Kd.C_alloc ?_ _) | (with_reducible refine Kd.C_drewN ?_ _) | (with_reducible refine Kd.C_drew ?_))); (case side2 => exact HC0_1.out); rintro e w199 ⟨rfl, hb⟩; refine ⟨_, rfl, ?_⟩; have n0_ := Aside0.mk (blk_below (g := gb335) (o := .cells #[.int .i64 a0_0, .slice A0_1 l0_1.length c0_1, .int .i64 a0_2, .int .i64 a0_3] 28 (0, 0)) (by (with_reducible repeat (first | refine blk_drewN ?_ _ | refine blk_drew ?_ | refine blk_alloc ?_ _)); exact BK335.out) hb); have n1_ := Aside0.mk (below_step (by repeat (first | (with_reducible first | exact HB.out | apply below_alloc | apply pw_below_drewN | apply below_drew1 | refine below_set ?_ GE335.out) | exact HB.out)) hb); clear BK335; clear HB; have BK335 := n0_; have HB := n1_; clear n0_ n1_; (try clear hb); (try clear hb2); (try clear hk); (try clear hi)))
      go_ret
      exact ⟨by first | rfl | (simp [errW_none, errW_some] <;> rfl) | (simp [*, errW_none, errW_some] <;> rfl), by repeat (first | (with_reducible first | exact HB.out | apply below_alloc | apply pw_below_drewN | apply below_drew1 | refine below_set ?_ GE335.out) | exact HB.out)⟩
  · replace c3 := Bool.eq_false_iff.mpr c3
    subst c3
    have H1 : (some false) = some r := by rw [if_neg (show ¬ (false = true) by decide)] at H; exact H
    clear H
    have H := H1
    clear H1
    obtain rfl := Option.some.inj H
    cases hrt

end Go.Proofs.Ytebnladkogkpfaa.Q
