import Derived.Test.YtebnladkogkpfaaQ16
import Derived.Test.YtebnladkogkpfaaMem2
/-! The walks of coordinates and of Mul, at size 3. -/
namespace Go.Proofs.Ytebnladkogkpfaa.Q
open Go.RowKit Go.Proofs.YtebnladkogkpfaaW.PrintWords Go.Proofs.YtebnladkogkpfaaW.PrintLast Go.Proofs.YtebnladkogkpfaaW.PrintMore
set_option linter.unusedVariables false
set_option linter.unusedSimpArgs false

def kA : Kd (List Int) := Kd.arr 3 (Kd.int .i64) (by decide)
theorem info58 : (Try.prog.info? 58).map (fun i => (i.zero, i.size, i.bytes)) = some (some (.agg #[.int .i64 0, .int .i64 0, .int .i64 0]), 3, 24) := by kernel_rfl
theorem kA_mk (w : World) (base : Nat) (ok : Nat → Prop) (x y z : Int) : kA.M w base ok [x, y, z] [.int .i64 x, .int .i64 y, .int .i64 z] := Kd.arr_of_cells (enc := Value.int .i64) rfl
theorem mul3 (a b : Nat) (ha : a ≤ 2) (hb : b ≤ 2) (w : World) : Calls Try.prog 50 #[.int .i64 3, .int .i64 a, .int .i64 b] w fun e w' => e = .returned (.int .i64 ((a * b % 3 : Nat) : Int)) ∧ Below w.heap.size w w' := by
  have hp : tegularef05_Prime.f 5 3 = some (3, 1) := by decide
  have HP := Aside0.mk hp
  obtain ⟨p, hpp⟩ : ∃ p : Nat, p = a * b := ⟨_, rfl⟩
  have hpb : p ≤ 4 := by rw [hpp]; exact Nat.le_trans (Nat.mul_le_mul ha hb) (by decide)
  have e0 : (a : Int) * (b : Int) = (p : Int) := by rw [hpp, Int.natCast_mul]
  have e1 : wrap64 ((a : Int) * (b : Int)) = (p : Int) := by rw [e0]; unfold wrap64; omega
  clear e0
  rw [← hpp]
  have HPP := Aside0.mk hpp
  clear hp hpp
  go_enter Try.func50, Try.ntmps50
  go_wp2_with fail
  refine (tegularef05_Prime.calls 5 3 3 1 _ HP.out).mono ?_
  rintro e w1 ⟨rfl, n, rfl⟩
  go_wp2
  go_ret
  exact ⟨congrArg (fun z : Int => Ending.returned (.int .i64 z)) (by omega), pw_below_drewN (Below.refl _ _) n⟩

set_option maxHeartbeats 8000000 in
set_option maxRecDepth 100000 in
theorem coords3 (w : World) : Calls Try.prog 48 #[.int .i64 3] w fun e w' => ∃ v, e = .returned v ∧ kA.R 58 w' w.heap.size (fun _ => True) v (T.pre 27) ∧ Below w.heap.size w w' := by
  go_enter Try.func48, Try.ntmps48
  go_wp2
  go_loopw [3, 4] (fun o i wr => ∃ x : Nat, x ≤ 3 ∧ i = .int .i64 x ∧ Aside0 (kA.R 58 wr w.heap.size (fun _ => True) o (T.pre (9 * x))) ∧ Aside0 (Below w.heap.size w wr)) (fun _ i _ => 3 - (intOf i).toNat)
  case atStart => exact ⟨0, by omega, rfl, ⟨Kd.R_nil _ _ _ _ _⟩, ⟨Below.refl _ _⟩⟩
  case round =>
    obtain ⟨x, hx, rfl, R1, B1⟩ := hrel
    by_cases hx3 : x < 3
    · have dx : decide ((x : Int) < 3) = true := decide_eq_true (by omega)
      go_wp2_with fail
      go_loopw [3, 5] (fun o i wr => ∃ y : Nat, y ≤ 3 ∧ i = .int .i64 y ∧ Aside0 (kA.R 58 wr w.heap.size (fun _ => True) o (T.pre (9 * x + 3 * y))) ∧ Aside0 (Below w.heap.size w wr)) (fun _ i _ => 3 - (intOf i).toNat)
      case atStart => exact ⟨0, by omega, rfl, R1, B1⟩
      case round =>
        obtain ⟨y, hy, rfl, R2, B2⟩ := hrel
        by_cases hy3 : y < 3
        · have dy : decide ((y : Int) < 3) = true := decide_eq_true (by omega)
          go_wp2_with fail
          go_loopw [3, 6] (fun o i wr => ∃ z : Nat, z ≤ 3 ∧ i = .int .i64 z ∧ Aside0 (kA.R 58 wr w.heap.size (fun _ => True) o (T.pre (9 * x + 3 * y + z))) ∧ Aside0 (Below w.heap.size w wr)) (fun _ i _ => 3 - (intOf i).toNat)
          case atStart => exact ⟨0, by omega, rfl, R2, B2⟩
          case round =>
            obtain ⟨z, hz, rfl, R3, B3⟩ := hrel
            by_cases hz3 : z < 3
            · have hg := T.good_at (x := x) hy3 hz3
              have ht := T.tri_at (x := x) hy3 hz3
              have hl := T.pre_len (9 * x + 3 * y + z)
              obtain ⟨m, hm⟩ : ∃ m, m = 9 * x + 3 * y + z := ⟨_, rfl⟩
              have hmb : m < 27 := by omega
              rw [← hm] at hg ht R3 hl
              have HG := Aside0.mk hg
              have HT := Aside0.mk ht
              have HL := Aside0.mk hl
              have HM := Aside0.mk hm
              clear hg ht hl hm R1 R2 B1 B2
              cases hb : T.goodT m with
              | true =>
                have R4 := Aside0.mk (T.pre_yes hb)
                rw [HT.out] at R4
                have hgb := HG.out.symm.trans hb
                simp only [Bool.or_eq_true, Bool.and_eq_true, beq_iff_eq] at hgb
                clear hb
                rcases hgb with (hx1 | ⟨hx0, hy1⟩) | ⟨hx0, hy0, hz1⟩
                · have hA : Aside0 (x = 1) := ⟨hx1⟩
                  have t0 : ((x : Int) == 1) = true := by rw [beq_iff_eq]; omega
                  try clear hx1
                  try clear hx0
                  try clear hy1
                  try clear hy0
                  try clear hz1
                  go_wp2_with (at_builtin; refine Kd.R_append kA (w0 := w) w.heap.size rfl (.tmp 44) (.tmp 49) 79 58 (.agg #[.int .i64 0, .int .i64 0, .int .i64 0]) 24 rfl Try.underlying79 info58 rfl (by decide) (by omega) u3 (T.pre m) [(x : Int), (y : Int), (z : Int)] [.int .i64 x, .int .i64 y, .int .i64 z] (fun _ => True) (fun _ => False) rfl rfl (kA_mk _ _ _ x y z) (fun _ h => h.elim) (fun _ _ => trivial) R3.out B3.out B3.out.size (by have := HL.out; omega) ?_; intro v1 w3 hr3 hb3 hg3 hat3; have R5 := Aside0.mk hr3; have B5 := Aside0.mk hb3; clear hr3 hb3 hg3 hat3)
                  have R6 : Aside0 (kA.R 58 w3 w.heap.size (fun _ => True) v1 (T.pre (9 * x + 3 * y + (z + 1)))) := ⟨by rw [show 9 * x + 3 * y + (z + 1) = m + 1 by have := HM.out; omega, R4.out]; exact R5.out⟩
                  clear R3 R5
                  go_roundw
                  case rel => exact ⟨z + 1, by omega, by go_num, R6, B5⟩
                  case measure => simp [intOf]; omega
                · have hA : Aside0 (x = 0 ∧ y = 1) := ⟨hx0, hy1⟩
                  have t0 : ((x : Int) == 1) = false := by rw [beq_eq_false_iff_ne]; omega
                  have t1 : ((x : Int) == 0) = true := by rw [beq_iff_eq]; omega
                  have t2 : ((y : Int) == 1) = true := by rw [beq_iff_eq]; omega
                  try clear hx1
                  try clear hx0
                  try clear hy1
                  try clear hy0
                  try clear hz1
                  go_wp2_with (at_builtin; refine Kd.R_append kA (w0 := w) w.heap.size rfl (.tmp 44) (.tmp 49) 79 58 (.agg #[.int .i64 0, .int .i64 0, .int .i64 0]) 24 rfl Try.underlying79 info58 rfl (by decide) (by omega) u3 (T.pre m) [(x : Int), (y : Int), (z : Int)] [.int .i64 x, .int .i64 y, .int .i64 z] (fun _ => True) (fun _ => False) rfl rfl (kA_mk _ _ _ x y z) (fun _ h => h.elim) (fun _ _ => trivial) R3.out B3.out B3.out.size (by have := HL.out; omega) ?_; intro v1 w3 hr3 hb3 hg3 hat3; have R5 := Aside0.mk hr3; have B5 := Aside0.mk hb3; clear hr3 hb3 hg3 hat3)
                  have R6 : Aside0 (kA.R 58 w3 w.heap.size (fun _ => True) v1 (T.pre (9 * x + 3 * y + (z + 1)))) := ⟨by rw [show 9 * x + 3 * y + (z + 1) = m + 1 by have := HM.out; omega, R4.out]; exact R5.out⟩
                  clear R3 R5
                  go_roundw
                  case rel => exact ⟨z + 1, by omega, by go_num, R6, B5⟩
                  case measure => simp [intOf]; omega
                · have hA : Aside0 (x = 0 ∧ y = 0 ∧ z = 1) := ⟨hx0, hy0, hz1⟩
                  have t0 : ((x : Int) == 1) = false := by rw [beq_eq_false_iff_ne]; omega
                  have t1 : ((x : Int) == 0) = true := by rw [beq_iff_eq]; omega
                  have t2 : ((y : Int) == 1) = false := by rw [beq_eq_false_iff_ne]; omega
                  have t3 : ((y : Int) == 0) = true := by rw [beq_iff_eq]; omega
                  have t4 : ((z : Int) == 1) = true := by rw [beq_iff_eq]; omega
                  try clear hx1
                  try clear hx0
                  try clear hy1
                  try clear hy0
                  try clear hz1
                  go_wp2_with (at_builtin; refine Kd.R_append kA (w0 := w) w.heap.size rfl (.tmp 44) (.tmp 49) 79 58 (.agg #[.int .i64 0, .int .i64 0, .int .i64 0]) 24 rfl Try.underlying79 info58 rfl (by decide) (by omega) u3 (T.pre m) [(x : Int), (y : Int), (z : Int)] [.int .i64 x, .int .i64 y, .int .i64 z] (fun _ => True) (fun _ => False) rfl rfl (kA_mk _ _ _ x y z) (fun _ h => h.elim) (fun _ _ => trivial) R3.out B3.out B3.out.size (by have := HL.out; omega) ?_; intro v1 w3 hr3 hb3 hg3 hat3; have R5 := Aside0.mk hr3; have B5 := Aside0.mk hb3; clear hr3 hb3 hg3 hat3)
                  have R6 : Aside0 (kA.R 58 w3 w.heap.size (fun _ => True) v1 (T.pre (9 * x + 3 * y + (z + 1)))) := ⟨by rw [show 9 * x + 3 * y + (z + 1) = m + 1 by have := HM.out; omega, R4.out]; exact R5.out⟩
                  clear R3 R5
                  go_roundw
                  case rel => exact ⟨z + 1, by omega, by go_num, R6, B5⟩
                  case measure => simp [intOf]; omega
              | false =>
                have R4 := Aside0.mk (T.pre_no hb)
                have hgb := HG.out.symm.trans hb
                simp only [Bool.or_eq_false_iff, Bool.and_eq_false_iff, beq_eq_false_iff_ne] at hgb
                clear hb
                by_cases hx0 : x = 0
                · by_cases hy0 : y = 0
                  · have hz1 : z ≠ 1 := by omega
                    have t0 : ((x : Int) == 1) = false := by rw [beq_eq_false_iff_ne]; omega
                    have t1 : ((x : Int) == 0) = true := by rw [beq_iff_eq]; omega
                    have t2 : ((y : Int) == 1) = false := by rw [beq_eq_false_iff_ne]; omega
                    have t3 : ((y : Int) == 0) = true := by rw [beq_iff_eq]; omega
                    have t4 : ((z : Int) == 1) = false := by rw [beq_eq_false_iff_ne]; omega
                    have R6 : Aside0 (kA.R 58 wr w.heap.size (fun _ => True) u3 (T.pre (9 * x + 3 * y + (z + 1)))) := ⟨by rw [show 9 * x + 3 * y + (z + 1) = m + 1 by have := HM.out; omega, R4.out]; exact R3.out⟩
                    clear R3 hgb
                    try clear hx1
                    try clear hx0
                    try clear hy1
                    try clear hy0
                    try clear hz1
                    go_wp2
                    go_roundw
                    case rel => exact ⟨z + 1, by omega, by go_num, R6, B3⟩
                    case measure => simp [intOf]; omega
                  · have hy1 : y ≠ 1 := by omega
                    have t0 : ((x : Int) == 1) = false := by rw [beq_eq_false_iff_ne]; omega
                    have t1 : ((x : Int) == 0) = true := by rw [beq_iff_eq]; omega
                    have t2 : ((y : Int) == 1) = false := by rw [beq_eq_false_iff_ne]; omega
                    have t3 : ((y : Int) == 0) = false := by rw [beq_eq_false_iff_ne]; omega
                    have R6 : Aside0 (kA.R 58 wr w.heap.size (fun _ => True) u3 (T.pre (9 * x + 3 * y + (z + 1)))) := ⟨by rw [show 9 * x + 3 * y + (z + 1) = m + 1 by have := HM.out; omega, R4.out]; exact R3.out⟩
                    clear R3 hgb
                    try clear hx1
                    try clear hx0
                    try clear hy1
                    try clear hy0
                    try clear hz1
                    go_wp2
                    go_roundw
                    case rel => exact ⟨z + 1, by omega, by go_num, R6, B3⟩
                    case measure => simp [intOf]; omega
                · have hx1 : x ≠ 1 := by omega
                  have t0 : ((x : Int) == 1) = false := by rw [beq_eq_false_iff_ne]; omega
                  have t1 : ((x : Int) == 0) = false := by rw [beq_eq_false_iff_ne]; omega
                  have R6 : Aside0 (kA.R 58 wr w.heap.size (fun _ => True) u3 (T.pre (9 * x + 3 * y + (z + 1)))) := ⟨by rw [show 9 * x + 3 * y + (z + 1) = m + 1 by have := HM.out; omega, R4.out]; exact R3.out⟩
                  clear R3 hgb
                  try clear hx1
                  try clear hx0
                  try clear hy1
                  try clear hy0
                  try clear hz1
                  go_wp2
                  go_roundw
                  case rel => exact ⟨z + 1, by omega, by go_num, R6, B3⟩
                  case measure => simp [intOf]; omega
            · have R4 : Aside0 (kA.R 58 wr w.heap.size (fun _ => True) u3 (T.pre (9 * x + 3 * (y + 1)))) := ⟨by have h := R3.out; rw [show 9 * x + 3 * y + z = 9 * x + 3 * (y + 1) by omega] at h; exact h⟩
              clear R1 R2 R3
              go_wp2
              go_roundw
              case rel => exact ⟨y + 1, by omega, by go_num, R4, B3⟩
              case measure => simp [intOf]; omega
        · have R4 : Aside0 (kA.R 58 wr w.heap.size (fun _ => True) u3 (T.pre (9 * (x + 1)))) := ⟨by have h := R2.out; rw [show 9 * x + 3 * y = 9 * (x + 1) by omega] at h; exact h⟩
          clear R1 R2
          go_wp2
          go_roundw
          case rel => exact ⟨x + 1, by omega, by go_num, R4, B2⟩
          case measure => simp [intOf]; omega
    · have R4 : Aside0 (kA.R 58 wr w.heap.size (fun _ => True) u3 (T.pre 27)) := ⟨by have h := R1.out; rw [show 9 * x = 27 by omega] at h; exact h⟩
      clear R1
      go_wp2
      go_ret
      exact ⟨_, rfl, R4.out, B1.out⟩
end Go.Proofs.Ytebnladkogkpfaa.Q
