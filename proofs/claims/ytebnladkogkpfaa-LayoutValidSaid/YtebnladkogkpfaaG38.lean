import Derived.Test.YtebnladkogkpfaaMemM
import Derived.Test.YtebnladkogkpfaaQ16
/-! Rows of rows and a row at hand, held apart; the coordinates of the plane of size 3 as plain lists. -/
namespace Go.Proofs.Ytebnladkogkpfaa.T
open Go.RowKit Go.Proofs.YtebnladkogkpfaaW.PrintWords Go.Proofs.YtebnladkogkpfaaW.PrintLast Go.Proofs.YtebnladkogkpfaaW.PrintMore
set_option linter.unusedVariables false

def M2 (base : Nat) (vG vL : Value) (lG : List (List Int)) (cu : List Int) (w : World) : Prop :=
  ∃ PG PL : Nat → Prop, (∀ k, PG k → ¬ PL k) ∧ Kd.S kR 56 w base PG vG lG ∧ Kd.R kI 3 w base PL vL cu
section
variable {base : Nat} {vG vL : Value} {lG : List (List Int)} {cu : List Int} {w w1 : World}
theorem M2.step (h : M2 base vG vL lG cu w) (hm : ∀ k, k < w.heap.size → base ≤ k → (∃ q cells, (q = 56 ∨ q = 3) ∧ w.heap[k]? = some (.cells cells q (0, 0))) → w1.heap[k]? = w.heap[k]?) : M2 base vG vL lG cu w1 := by
  obtain ⟨PG, PL, d1, hS, hC⟩ := h
  refine ⟨PG, PL, d1, Kd.S_mono (Kd.S_move (Kd.S_bound hS) ?_) (fun _ hk => hk.1), Kd.R_mono (Kd.R_move (Kd.R_bound hC) ?_) (fun _ hk => hk.1)⟩
  · rintro k ⟨_, hb, hlt, q, hq, cells, hc⟩
    refine hm k hlt hb ⟨q, cells, ?_, hc⟩
    simpa [kR, Kd.slice, kI, Kd.int, Kd.scalar] using hq
  · rintro k ⟨_, hb, hlt, q, hq, cells, hc⟩
    refine hm k hlt hb ⟨q, cells, .inr ?_, hc⟩
    simpa [kI, Kd.int, Kd.scalar] using hq
theorem M2.below (h : M2 base vG vL lG cu w) (hb : Below w.heap.size w w1) : M2 base vG vL lG cu w1 := h.step (fun k hk _ _ => hb.block k hk)
theorem M2.alloc (h : M2 base vG vL lG cu w) (o : Obj) : M2 base vG vL lG cu (w.alloc o) := h.below (below_alloc (Below.refl _ _) o)
theorem M2.set (h : M2 base vG vL lG cu w) {g t : Nat} {cells : Array Value} (hg : w.heap[g]? = some (.cells cells t (0, 0))) (ht : t ≠ 56 ∧ t ≠ 3) (j : Nat) (u : Value) : M2 base vG vL lG cu (w.setCell ⟨g, j, none⟩ u) := by
  refine h.step (fun k _ _ hk => Below.heap_setCell w ⟨g, j, none⟩ u k (fun he => ?_))
  obtain ⟨q, cs, hq, hc⟩ := hk
  have hkg : k = g := he
  rw [hkg, hg] at hc
  injection hc with hc
  injection hc with _ hc3
  rcases hq with hq | hq
  · exact ht.1 (hc3.trans hq)
  · exact ht.2 (hc3.trans hq)
theorem M2.own (h : M2 base vG vL lG cu w) : w.ownsRow base 3 1 vL cu.length (encs (Value.int .i64) cu) := by
  obtain ⟨PG, PL, d1, hS, hC⟩ := h
  exact Kd.own_of_R hC
theorem M2.cur (h : M2 base vG vL lG cu w) {vL' : Value} {cu' : List Int} (hg : w.grownBy w1 vL.ownBlock) (hat : vL'.ownBlock = vL.ownBlock ∨ ∃ b, vL'.ownBlock = some b ∧ w.heap.size ≤ b)
    (ho : w1.ownsRow base 3 1 vL' cu'.length (encs (Value.int .i64) cu')) : M2 base vG vL' lG cu' w1 := by
  obtain ⟨PG, PL, d1, hS, hC⟩ := h
  have hS2 := Kd.S_mono (ok' := fun k => PG k ∧ k < w.heap.size) (Kd.S_bound hS) (fun k hk => ⟨hk.1, hk.2.2.1⟩)
  have hb : ∀ k, some k = vL.ownBlock → PL k := fun k hk => hC.1 k hk.symm
  refine ⟨fun k => PG k ∧ k < w.heap.size, fun k => PL k ∨ w.heap.size ≤ k, fun k h1 h2 => h2.elim (d1 k h1.1) (by omega), Kd.S_grown hS2 hg (fun k hk he => d1 k hk.1 (hb k he)), Kd.R_of_own ho (fun k hk => ?_)⟩
  rcases hat with e | ⟨b, e, hle⟩
  · exact .inl (hb k (by rw [← e, hk]))
  · rw [e] at hk
    injection hk with hk
    subst hk
    exact .inr hle
theorem M2.row (h : M2 base vG vL lG cu w) : ∃ inner, w.ownsRow base 56 1 vG lG.length inner ∧ ∀ {w1 : World} {vG' : Value}, w.grownBy w1 vG.ownBlock → (vG'.ownBlock = vG.ownBlock ∨ ∃ b, vG'.ownBlock = some b ∧ w.heap.size ≤ b) →
    w1.ownsRow base 56 1 vG' (lG.length + 1) (inner ++ [vL]) → M2 base vG' (.slice none 0 0) (lG ++ [cu]) [] w1 := by
  obtain ⟨PG, PL, d1, hS, hC⟩ := h
  obtain ⟨f, hf, hR⟩ := Kd.S_tag hS lG.length PL (fun k hk h2 => d1 k h2 hk)
  obtain ⟨h0, inner, ho, hr⟩ := hR
  have hb : ∀ k, some k = vG.ownBlock → PG k := fun k hk => h0 k hk.symm
  have ho' := ho
  rw [List.length_zipIdx] at ho'
  refine ⟨inner, ho', fun {w1 vG'} hg hat ho1 => ⟨fun k => PG k ∨ PL k ∨ w.heap.size ≤ k, fun _ => False, fun _ _ h => h, ?_, Kd.R_nil _ _ _ _ _⟩⟩
  have := Kd.R_appended (d := Kd.tag f kR) (ok := fun k => PG k ∨ PL k ∨ w.heap.size ≤ k) (okp := PL) (p := (cu, lG.length)) (cs := [vL]) (inner := inner) (fun k hk => .inl (h0 k hk)) (hr.imp_ (fun _ _ hp => (Kd.tag f kR).M_mono (fun k hk => ⟨.inl hk.1, hk.2⟩) hp))
    (kR.M_mono (fun k hk => ⟨hk, hf k hk⟩) ⟨vL, rfl, hC⟩) (fun k hk => ⟨.inr (.inl hk), fun he => d1 k (hb k he) hk⟩) (fun k hk => .inr (.inr hk)) (by rw [List.length_zipIdx]; exact ho1) hg hat
  rw [← Kd.zip_snoc] at this
  exact ⟨f, this⟩
theorem M2.slice (h : M2 base vG vL lG cu w) : ∃ A c, vG = .slice A lG.length c := by
  obtain ⟨PG, PL, d1, hS, hC⟩ := h
  exact Kd.S_slice hS
theorem M2.sliceL (h : M2 base vG vL lG cu w) : ∃ A c, vL = .slice A cu.length c := by
  obtain ⟨PG, PL, d1, hS, hC⟩ := h
  exact Kd.R_slice hC
theorem M2.groups (h : M2 base vG vL lG cu w) : Kd.S kR 56 w base (fun _ => True) vG lG := by
  obtain ⟨PG, PL, d1, hS, hC⟩ := h
  exact Kd.S_mono hS (fun _ _ => trivial)
end

/-! the plane of size 3 -/
def tri (m : Nat) : List Int := [((m / 9 : Nat) : Int), ((m / 3 % 3 : Nat) : Int), ((m % 3 : Nat) : Int)]
def goodT (m : Nat) : Bool := m / 9 == 1 || (m / 9 == 0 && m / 3 % 3 == 1) || (m / 9 == 0 && (m / 3 % 3 == 0 && m % 3 == 1))
def pre (m : Nat) : List (List Int) := ((List.range m).filter goodT).map tri
theorem pre_succ (m : Nat) : pre (m + 1) = pre m ++ if goodT m = true then [tri m] else [] := by
  unfold pre
  rw [List.range_succ, List.filter_append, List.map_append]
  congr 1
  by_cases h : goodT m = true <;> simp [h]
theorem pre_len (m : Nat) : (pre m).length ≤ m := by
  unfold pre
  rw [List.length_map]
  exact Nat.le_trans (List.length_filter_le _ _) (Nat.le_of_eq List.length_range)
theorem pre_yes {m : Nat} (h : goodT m = true) : pre (m + 1) = pre m ++ [tri m] := by rw [pre_succ, if_pos h]
theorem pre_no {m : Nat} (h : goodT m = false) : pre (m + 1) = pre m := by rw [pre_succ, if_neg (by rw [h]; decide), List.append_nil]
theorem tri_at {x y z : Nat} (hy : y < 3) (hz : z < 3) : tri (9 * x + 3 * y + z) = [(x : Int), (y : Int), (z : Int)] := by
  unfold tri
  rw [show (9 * x + 3 * y + z) / 9 = x by omega, show (9 * x + 3 * y + z) / 3 % 3 = y by omega, show (9 * x + 3 * y + z) % 3 = z by omega]
theorem good_at {x y z : Nat} (hy : y < 3) (hz : z < 3) : goodT (9 * x + 3 * y + z) = (x == 1 || (x == 0 && y == 1) || (x == 0 && (y == 0 && z == 1))) := by
  unfold goodT
  rw [show (9 * x + 3 * y + z) / 9 = x by omega, show (9 * x + 3 * y + z) / 3 % 3 = y by omega, show (9 * x + 3 * y + z) % 3 = z by omega]
/-- Coordinate n of point i. -/
def cr (i n : Nat) : Nat := (((pre 27).getD i []).getD n 0).toNat
theorem pre27 : (pre 27).length = 13 := by decide
theorem cr_at : ∀ i, i < 13 → ∀ n, n < 3 → ((pre 27).getD i []).getD n 0 = (cr i n : Int) ∧ cr i n ≤ 2 := by decide
/-- The product of points i and k, n coordinates done. -/
def sm (i k : Nat) : Nat → Nat
  | 0 => 0
  | n + 1 => (sm i k n + cr i n * cr k n % 3) % 3
theorem sm_le (i k : Nat) : ∀ n, sm i k n ≤ 2
  | 0 => by simp [sm]
  | n + 1 => by simp only [sm]; omega
def lineUpto (i k : Nat) : List Int := ((List.range k).filter fun j => sm i j 3 == 0).map fun (j : Nat) => (j : Int)
theorem lineUpto_yes {i k : Nat} (h : (sm i k 3 == 0) = true) : lineUpto i (k + 1) = lineUpto i k ++ [(k : Int)] := by
  unfold lineUpto
  rw [List.range_succ, List.filter_append, List.map_append]
  congr 1
  simp [h]
theorem lineUpto_no {i k : Nat} (h : (sm i k 3 == 0) = false) : lineUpto i (k + 1) = lineUpto i k := by
  unfold lineUpto
  rw [List.range_succ, List.filter_append, List.map_append]
  simp [h]
theorem lineUpto_len (i k : Nat) : (lineUpto i k).length ≤ k := by
  unfold lineUpto
  rw [List.length_map]
  exact Nat.le_trans (List.length_filter_le _ _) (Nat.le_of_eq List.length_range)
def linesUpto (i : Nat) : List (List Int) := (List.range i).map fun j => lineUpto j 13
theorem linesUpto_succ (i : Nat) : linesUpto (i + 1) = linesUpto i ++ [lineUpto i 13] := by
  unfold linesUpto
  rw [List.range_succ, List.map_append]; rfl
theorem linesUpto_len (i : Nat) : (linesUpto i).length = i := by simp [linesUpto]
end Go.Proofs.Ytebnladkogkpfaa.T

/-! The walks of coordinates and of Mul, at size 3. -/
namespace Go.Proofs.Ytebnladkogkpfaa.Q
open Go.RowKit Go.Proofs.YtebnladkogkpfaaW.PrintWords Go.Proofs.YtebnladkogkpfaaW.PrintLast Go.Proofs.YtebnladkogkpfaaW.PrintMore
set_option linter.unusedVariables false
set_option linter.unusedSimpArgs false

def kA : Kd (List Int) := Kd.arr 3 (Kd.int .i64) (by decide)
theorem info58 : (Try.prog.info? 58).map (fun i => (i.zero, i.size, i.bytes)) = some (some (.agg #[.int .i64 0, .int .i64 0, .int .i64 0]), 3, 24) := by kernel_rfl
theorem kA_mk (w : World) (base : Nat) (ok : Nat → Prop) (x y z : Int) : kA.M w base ok [x, y, z] [.int .i64 x, .int .i64 y, .int .i64 z] := Kd.arr_of_cells (enc := Value.int .i64) rfl
theorem mul3 (a b : Nat) (ha : a ≤ 2) (hb : b ≤ 2) (w : World) : Calls Try.prog 50 #[.int .i64 3, .int .i64 a, .int .i64 b] w fun e w' => e = .returned (.int .i64 ((a * b % 3 : Nat) : Int)) ∧ Below w.heap.size w w' := by
  have hp : tegularef05_Prime.f 5 3 = some (3, 1) := by decide
  have HP := Aside0.mk hp
  obtain ⟨p, hpp⟩ : ∃ p : Nat, p = a * b := ⟨_, rfl⟩
  have hpb : p ≤ 4 := by rw [hpp]; exact Nat.le_trans (Nat.mul_le_mul ha hb) (by decide)
  have e0 : (a : Int) * (b : Int) = (p : Int) := by rw [hpp, Int.natCast_mul]
  have e1 : wrap64 ((a : Int) * (b : Int)) = (p : Int) := by rw [e0]; unfold wrap64; omega
  clear e0
  rw [← hpp]
  have HPP := Aside0.mk hpp
  clear hp hpp
  go_enter Try.func50, Try.ntmps50
  go_wp2_with fail
  refine (tegularef05_Prime.calls 5 3 3 1 _ HP.out).mono ?_
  rintro e w1 ⟨rfl, n, rfl⟩
  go_wp2
  go_ret
  exact ⟨congrArg (fun z : Int => Ending.returned (.int .i64 z)) (by omega), pw_below_drewN (Below.refl _ _) n⟩

set_option maxHeartbeats 8000000 in
set_option maxRecDepth 100000 in
theorem coords3 (w : World) : Calls Try.prog 48 #[.int .i64 3] w fun e w' => ∃ v, e = .returned v ∧ kA.R 58 w' w.heap.size (fun _ => True) v (T.pre 27) ∧ Below w.heap.size w w' := by
  go_enter Try.func48, Try.ntmps48
  go_wp2
  go_loopw [3, 4] (fun o i wr => ∃ x : Nat, x ≤ 3 ∧ i = .int .i64 x ∧ Aside0 (kA.R 58 wr w.heap.size (fun _ => True) o (T.pre (9 * x))) ∧ Aside0 (Below w.heap.size w wr)) (fun _ i _ => 3 - (intOf i).toNat)
  case atStart => exact ⟨0, by omega, rfl, ⟨Kd.R_nil _ _ _ _ _⟩, ⟨Below.refl _ _⟩⟩
  case round =>
    obtain ⟨x, hx, rfl, R1, B1⟩ := hrel
    by_cases hx3 : x < 3
    · have dx : decide ((x : Int) < 3) = true := decide_eq_true (by omega)
      go_wp2_with fail
      go_loopw [3, 5] (fun o i wr => ∃ y : Nat, y ≤ 3 ∧ i = .int .i64 y ∧ Aside0 (kA.R 58 wr w.heap.size (fun _ => True) o (T.pre (9 * x + 3 * y))) ∧ Aside0 (Below w.heap.size w wr)) (fun _ i _ => 3 - (intOf i).toNat)
      case atStart => exact ⟨0, by omega, rfl, R1, B1⟩
      case round =>
        obtain ⟨y, hy, rfl, R2, B2⟩ := hrel
        by_cases hy3 : y < 3
        · have dy : decide ((y : Int) < 3) = true := decide_eq_true (by omega)
          go_wp2_with fail
          go_loopw [3, 6] (fun o i wr => ∃ z : Nat, z ≤ 3 ∧ i = .int .i64 z ∧ Aside0 (kA.R 58 wr w.heap.size (fun _ => True) o (T.pre (9 * x + 3 * y + z))) ∧ Aside0 (Below w.heap.size w wr)) (fun _ i _ => 3 - (intOf i).toNat)
          case atStart => exact ⟨0, by omega, rfl, R2, B2⟩
          case round =>
            obtain ⟨z, hz, rfl, R3, B3⟩ := hrel
            by_cases hz3 : z < 3
            · have hg := T.good_at (x := x) hy3 hz3
              have ht := T.tri_at (x := x) hy3 hz3
              have hl := T.pre_len (9 * x + 3 * y + z)
              obtain ⟨m, hm⟩ : ∃ m, m = 9 * x + 3 * y + z := ⟨_, rfl⟩
              have hmb : m < 27 := by omega
              rw [← hm] at hg ht R3 hl
              have HG := Aside0.mk hg
              have HT := Aside0.mk ht
              have HL := Aside0.mk hl
              have HM := Aside0.mk hm
              clear hg ht hl hm R1 R2 B1 B2
              cases hb : T.goodT m with
              | true =>
                have R4 := Aside0.mk (T.pre_yes hb)
                rw [HT.out] at R4
                have hgb := HG.out.symm.trans hb
                simp only [Bool.or_eq_true, Bool.and_eq_true, beq_iff_eq] at hgb
                clear hb
                rcases hgb with (hx1 | ⟨hx0, hy1⟩) | ⟨hx0, hy0, hz1⟩
                · have hA : Aside0 (x = 1) := ⟨hx1⟩
                  have t0 : ((x : Int) == 1) = true := by rw [beq_iff_eq]; omega
                  try clear hx1
                  try clear hx0
                  try clear hy1
                  try clear hy0
                  try clear hz1
                  go_wp2_with (at_builtin; refine Kd.R_append kA (w0 := w) w.heap.size rfl (.tmp 44) (.tmp 49) 79 58 (.agg #[.int .i64 0, .int .i64 0, .int .i64 0]) 24 rfl Try.underlying79 info58 rfl (by decide) (by omega) u3 (T.pre m) [(x : Int), (y : Int), (z : Int)] [.int .i64 x, .int .i64 y, .int .i64 z] (fun _ => True) (fun _ => False) rfl rfl (kA_mk _ _ _ x y z) (fun _ h => h.elim) (fun _ _ => trivial) R3.out B3.out B3.out.size (by have := HL.out; omega) ?_; intro v1 w3 hr3 hb3 hg3 hat3; have R5 := Aside0.mk hr3; have B5 := Aside0.mk hb3; clear hr3 hb3 hg3 hat3)
                  have R6 : Aside0 (kA.R 58 w3 w.heap.size (fun _ => True) v1 (T.pre (9 * x + 3 * y + (z + 1)))) := ⟨by rw [show 9 * x + 3 * y + (z + 1) = m + 1 by have := HM.out; omega, R4.out]; exact R5.out⟩
                  clear R3 R5
                  go_roundw
                  case rel => exact ⟨z + 1, by omega, by go_num, R6, B5⟩
                  case measure => simp [intOf]; omega
                · have hA : Aside0 (x = 0 ∧ y = 1) := ⟨hx0, hy1⟩
                  have t0 : ((x : Int) == 1) = false := by rw [beq_eq_false_iff_ne]; omega
                  have t1 : ((x : Int) == 0) = true := by rw [beq_iff_eq]; omega
                  have t2 : ((y : Int) == 1) = true := by rw [beq_iff_eq]; omega
                  try clear hx1
                  try clear hx0
                  try clear hy1
                  try clear hy0
                  try clear hz1
                  go_wp2_with (at_builtin; refine Kd.R_append kA (w0 := w) w.heap.size rfl (.tmp 44) (.tmp 49) 79 58 (.agg #[.int .i64 0, .int .i64 0, .int .i64 0]) 24 rfl Try.underlying79 info58 rfl (by decide) (by omega) u3 (T.pre m) [(x : Int), (y : Int), (z : Int)] [.int .i64 x, .int .i64 y, .int .i64 z] (fun _ => True) (fun _ => False) rfl rfl (kA_mk _ _ _ x y z) (fun _ h => h.elim) (fun _ _ => trivial) R3.out B3.out B3.out.size (by have := HL.out; omega) ?_; intro v1 w3 hr3 hb3 hg3 hat3; have R5 := Aside0.mk hr3; have B5 := Aside0.mk hb3; clear hr3 hb3 hg3 hat3)
                  have R6 : Aside0 (kA.R 58 w3 w.heap.size (fun _ => True) v1 (T.pre (9 * x + 3 * y + (z + 1)))) := ⟨by rw [show 9 * x + 3 * y + (z + 1) = m + 1 by have := HM.out; omega, R4.out]; exact R5.out⟩
                  clear R3 R5
                  go_roundw
                  case rel => exact ⟨z + 1, by omega, by go_num, R6, B5⟩
                  case measure => simp [intOf]; omega
                · have hA : Aside0 (x = 0 ∧ y = 0 ∧ z = 1) := ⟨hx0, hy0, hz1⟩
                  have t0 : ((x : Int) == 1) = false := by rw [beq_eq_false_iff_ne]; omega
                  have t1 : ((x : Int) == 0) = true := by rw [beq_iff_eq]; omega
                  have t2 : ((y : Int) == 1) = false := by rw [beq_eq_false_iff_ne]; omega
                  have t3 : ((y : Int) == 0) = true := by rw [beq_iff_eq]; omega
                  have t4 : ((z : Int) == 1) = true := by rw [beq_iff_eq]; omega
                  try clear hx1
                  try clear hx0
                  try clear hy1
                  try clear hy0
                  try clear hz1
                  go_wp2_with (at_builtin; refine Kd.R_append kA (w0 := w) w.heap.size rfl (.tmp 44) (.tmp 49) 79 58 (.agg #[.int .i64 0, .int .i64 0, .int .i64 0]) 24 rfl Try.underlying79 info58 rfl (by decide) (by omega) u3 (T.pre m) [(x : Int), (y : Int), (z : Int)] [.int .i64 x, .int .i64 y, .int .i64 z] (fun _ => True) (fun _ => False) rfl rfl (kA_mk _ _ _ x y z) (fun _ h => h.elim) (fun _ _ => trivial) R3.out B3.out B3.out.size (by have := HL.out; omega) ?_; intro v1 w3 hr3 hb3 hg3 hat3; have R5 := Aside0.mk hr3; have B5 := Aside0.mk hb3; clear hr3 hb3 hg3 hat3)
                  have R6 : Aside0 (kA.R 58 w3 w.heap.size (fun _ => True) v1 (T.pre (9 * x + 3 * y + (z + 1)))) := ⟨by rw [show 9 * x + 3 * y + (z + 1) = m + 1 by have := HM.out; omega, R4.out]; exact R5.out⟩
                  clear R3 R5
                  go_roundw
                  case rel => exact ⟨z + 1, by omega, by go_num, R6, B5⟩
                  case measure => simp [intOf]; omega
              | false =>
                have R4 := Aside0.mk (T.pre_no hb)
                have hgb := HG.out.symm.trans hb
                simp only [Bool.or_eq_false_iff, Bool.and_eq_false_iff, beq_eq_false_iff_ne] at hgb
                clear hb
                by_cases hx0 : x = 0
                · by_cases hy0 : y = 0
                  · have hz1 : z ≠ 1 := by omega
                    have t0 : ((x : Int) == 1) = false := by rw [beq_eq_false_iff_ne]; omega
                    have t1 : ((x : Int) == 0) = true := by rw [beq_iff_eq]; omega
                    have t2 : ((y : Int) == 1) = false := by rw [beq_eq_false_iff_ne]; omega
                    have t3 : ((y : Int) == 0) = true := by rw [beq_iff_eq]; omega
                    have t4 : ((z : Int) == 1) = false := by rw [beq_eq_false_iff_ne]; omega
                    have R6 : Aside0 (kA.R 58 wr w.heap.size (fun _ => True) u3 (T.pre (9 * x + 3 * y + (z + 1)))) := ⟨by rw [show 9 * x + 3 * y + (z + 1) = m + 1 by have := HM.out; omega, R4.out]; exact R3.out⟩
                    clear R3 hgb
                    try clear hx1
                    try clear hx0
                    try clear hy1
                    try clear hy0
                    try clear hz1
                    go_wp2
                    go_roundw
                    case rel => exact ⟨z + 1, by omega, by go_num, R6, B3⟩
                    case measure => simp [intOf]; omega
                  · have hy1 : y ≠ 1 := by omega
                    have t0 : ((x : Int) == 1) = false := by rw [beq_eq_false_iff_ne]; omega
                    have t1 : ((x : Int) == 0) = true := by rw [beq_iff_eq]; omega
                    have t2 : ((y : Int) == 1) = false := by rw [beq_eq_false_iff_ne]; omega
                    have t3 : ((y : Int) == 0) = false := by rw [beq_eq_false_iff_ne]; omega
                    have R6 : Aside0 (kA.R 58 wr w.heap.size (fun _ => True) u3 (T.pre (9 * x + 3 * y + (z + 1)))) := ⟨by rw [show 9 * x + 3 * y + (z + 1) = m + 1 by have := HM.out; omega, R4.out]; exact R3.out⟩
                    clear R3 hgb
                    try clear hx1
                    try clear hx0
                    try clear hy1
                    try clear hy0
                    try clear hz1
                    go_wp2
                    go_roundw
                    case rel => exact ⟨z + 1, by omega, by go_num, R6, B3⟩
                    case measure => simp [intOf]; omega
                · have hx1 : x ≠ 1 := by omega
                  have t0 : ((x : Int) == 1) = false := by rw [beq_eq_false_iff_ne]; omega
                  have t1 : ((x : Int) == 0) = false := by rw [beq_eq_false_iff_ne]; omega
                  have R6 : Aside0 (kA.R 58 wr w.heap.size (fun _ => True) u3 (T.pre (9 * x + 3 * y + (z + 1)))) := ⟨by rw [show 9 * x + 3 * y + (z + 1) = m + 1 by have := HM.out; omega, R4.out]; exact R3.out⟩
                  clear R3 hgb
                  try clear hx1
                  try clear hx0
                  try clear hy1
                  try clear hy0
                  try clear hz1
                  go_wp2
                  go_roundw
                  case rel => exact ⟨z + 1, by omega, by go_num, R6, B3⟩
                  case measure => simp [intOf]; omega
            · have R4 : Aside0 (kA.R 58 wr w.heap.size (fun _ => True) u3 (T.pre (9 * x + 3 * (y + 1)))) := ⟨by have h := R3.out; rw [show 9 * x + 3 * y + z = 9 * x + 3 * (y + 1) by omega] at h; exact h⟩
              clear R1 R2 R3
              go_wp2
              go_roundw
              case rel => exact ⟨y + 1, by omega, by go_num, R4, B3⟩
              case measure => simp [intOf]; omega
        · have R4 : Aside0 (kA.R 58 wr w.heap.size (fun _ => True) u3 (T.pre (9 * (x + 1)))) := ⟨by have h := R2.out; rw [show 9 * x + 3 * y = 9 * (x + 1) by omega] at h; exact h⟩
          clear R1 R2
          go_wp2
          go_roundw
          case rel => exact ⟨x + 1, by omega, by go_num, R4, B2⟩
          case measure => simp [intOf]; omega
    · have R4 : Aside0 (kA.R 58 wr w.heap.size (fun _ => True) u3 (T.pre 27)) := ⟨by have h := R1.out; rw [show 9 * x = 27 by omega] at h; exact h⟩
      clear R1
      go_wp2
      go_ret
      exact ⟨_, rfl, R4.out, B1.out⟩
end Go.Proofs.Ytebnladkogkpfaa.Q

/-! The walk of Projective at size 3. -/
namespace Go.Proofs.Ytebnladkogkpfaa.Q
open Go.RowKit Go.Proofs.YtebnladkogkpfaaW.PrintWords Go.Proofs.YtebnladkogkpfaaW.PrintLast Go.Proofs.YtebnladkogkpfaaW.PrintMore
set_option linter.unusedVariables false
set_option linter.unusedSimpArgs false

theorem crd_cells {w : World} {base : Nat} {ok : Nat → Prop} {v : Value} (h : kA.R 58 w base ok v (T.pre 27)) : ∃ gl cap lc, v = .slice (some ⟨gl, 0, none⟩) 13 cap ∧ w.heap[gl]? = some (.cells lc 58 (0, 0)) ∧ base ≤ gl ∧ 13 ≤ cap ∧ ∀ i, i < 13 → ∀ n, n < 3 → lc[i * 3 + n]? = some (.int .i64 (T.cr i n)) := by
  obtain ⟨gl, cap, hv, hb, _, lc, hlc⟩ := Kd.R_form h (by rw [T.pre27]; omega)
  rw [T.pre27] at hv
  subst hv
  obtain ⟨_, hcap, hC⟩ := Kd.R_reads' h
  refine ⟨gl, cap, lc, rfl, hlc, hb, hcap, fun i hi n hn => ?_⟩
  obtain ⟨ad, c, e, _, hK, hc⟩ := Kd.C_get hC ([] : List Int) (i : Int) (by omega) (by rw [T.pre27]; omega)
  injection e with e
  subst e
  rw [Int.toNat_natCast] at hK hc
  obtain ⟨hl, hcs⟩ := Kd.arr_cells (enc := Value.int .i64) hK
  have h1 := hc n (.int .i64 (T.cr i n)) (by
    rw [hcs]
    unfold encs
    rw [List.getElem?_map]
    have h2 := (T.cr_at i hi n hn).1
    have h3 : n < ((T.pre 27).getD i []).length := by rw [hl]; exact hn
    rw [List.getD_eq_getElem?_getD, List.getElem?_eq_getElem h3] at h2
    rw [List.getElem?_eq_getElem h3]
    simp only [Option.map_some]
    rw [← h2]
    rfl)
  rw [add_plain, show i * kA.sz + n = i * 3 + n from rfl, blk_cell hlc] at h1
  exact h1
theorem add3 : ∀ s, s < 3 → ∀ r, r < 3 → tegularef05_Add.f 10 3 ((s : Nat) : Int) ((r : Nat) : Int) = some (((s + r) % 3 : Nat) : Int) := by decide +kernel
/-- The blocks that Projective knows. -/
structure PSt (w0 : World) (lc : Array Value) (gl bd : Nat) (vG : Value) (wr : World) : Prop where
  res : wr.heap[w0.heap.size]? = some (.cells #[.int .i64 0, .slice none 0 0] 26 (0, 0))
  num : wr.heap[bd]? = some (.cells #[.int .i64 13, vG] 26 (0, 0))
  crd : wr.heap[gl]? = some (.cells lc 58 (0, 0))
  low : w0.heap.size < bd
  bel : Below w0.heap.size w0 wr
theorem PSt.grown {w0 wr w1 : World} {lc : Array Value} {gl bd : Nat} {vG : Value} (h : PSt w0 lc gl bd vG wr) {row : Option Nat} (hg : wr.grownBy w1 row) (hr : ∀ k, row = some k → w0.heap.size ≤ k ∧ ∃ cells q, (q = 3 ∨ q = 56) ∧ wr.heap[k]? = some (.cells cells q (0, 0))) : PSt w0 lc gl bd vG w1 := by
  have hne : ∀ {k t : Nat} {cs : Array Value}, wr.heap[k]? = some (.cells cs t (0, 0)) → t ≠ 3 → t ≠ 56 → some k ≠ row := by
    intro k t cs hk h3 h56 he
    obtain ⟨_, cells, q, hq, hc⟩ := hr k he.symm
    rw [hk] at hc
    injection hc with hc
    injection hc with _ hc
    rcases hq with hq | hq
    · exact h3 (hc.trans hq)
    · exact h56 (hc.trans hq)
  exact ⟨blk_grown h.res hg (hne h.res (by decide) (by decide)), blk_grown h.num hg (hne h.num (by decide) (by decide)), blk_grown h.crd hg (hne h.crd (by decide) (by decide)), h.low, h.bel.grown hg h.bel.size (fun k hk => (hr k hk).1)⟩
theorem PSt.below {w0 wr w1 : World} {lc : Array Value} {gl bd : Nat} {vG : Value} (h : PSt w0 lc gl bd vG wr) (hb : Below wr.heap.size wr w1) : PSt w0 lc gl bd vG w1 :=
  ⟨blk_below h.res hb, blk_below h.num hb, blk_below h.crd hb, h.low, below_step h.bel hb⟩
theorem PSt.set {w0 wr : World} {lc : Array Value} {gl bd : Nat} {vG : Value} (h : PSt w0 lc gl bd vG wr) (v : Value) : PSt w0 lc gl bd v (wr.setCell ⟨bd, 1, none⟩ v) :=
  ⟨blk_far h.res (by have := h.low; show w0.heap.size ≠ bd; omega) _, blk_set h.num 1 v, blk_far h.crd (fun e => by
    have e2 : gl = bd := e
    have h1 := h.crd
    rw [e2, h.num] at h1
    injection h1 with h1
    injection h1 with _ h1
    cases h1) _, h.low, below_set h.bel (by have := h.low; omega)⟩
theorem own_block' {w : World} {base n : Nat} {e : TypeId} {v : Value} {xs : List Value} (h : w.ownsRow base e 1 v n xs) (he : e = 3 ∨ e = 56) : ∀ k, v.ownBlock = some k → base ≤ k ∧ ∃ cells q, (q = 3 ∨ q = 56) ∧ w.heap[k]? = some (.cells cells q (0, 0)) := fun k hk => by
  obtain ⟨cells, hc⟩ := own_typed h k hk
  exact ⟨own_base h k hk, cells, e, he, hc⟩
theorem encs_snoc' (xs : List Int) (x : Int) : encs (Value.int .i64) xs ++ [.int .i64 x] = encs (Value.int .i64) (xs ++ [x]) := by simp [encs]
/-- A world in which all that was is as it was. -/
structure BW' (w : World) where
  w' : World
  h : Below w.heap.size w w'
instance (w : World) : Nonempty (BW' w) := ⟨⟨w, Below.refl _ _⟩⟩
theorem region_quiet_bw' {P : Program} {id : Nat} {Q : Exit → Act → World → Prop} {a : Act} {w : World} {l : List Oper} (hm : P.follows .mixedOrders = true) (hB : Region.lexB .any l.toArray = true)
    (h : wpQuiet P l.toArray (fun w' => ∃ X : BW' w, w' = X.w') (fun a' => ∀ w', (∃ X : BW' w, w' = X.w') → Q .normal a' w') l a) : (Code.region id l.toArray true).wp P Q a w :=
  wp_region_quiet (C := fun w' => ∃ X : BW' w, w' = X.w') hm hB ⟨⟨w.drew, below_drew (Below.refl _ _)⟩, rfl⟩ (by simpa using h)

set_option maxHeartbeats 8000000 in
set_option maxRecDepth 100000 in
theorem proj3 (w : World) : Calls Try.prog 38 #[.int .i64 3] w fun e w' => ∃ v, e = .returned (.agg #[.int .i64 13, v]) ∧ Kd.S (Kd.slice 3 (Kd.int .i64)) 56 w' w.heap.size (fun _ => True) v (T.linesUpto 13) ∧ Below w.heap.size w w' := by
  have hu26 := Try.underlying26
  have hu58 := Try.underlying58
  obtain ⟨i3, hi3, hz30, hz31, hz32⟩ := info_parts info3
  have HI3 := Aside0.mk hi3
  have HZ30 := Aside0.mk hz30
  have HZ31 := Aside0.mk hz31
  have HZ32 := Aside0.mk hz32
  obtain ⟨i56, hi56, hz560, hz561, hz562⟩ := info_parts info56
  have HI56 := Aside0.mk hi56
  have HZ560 := Aside0.mk hz560
  have HZ561 := Aside0.mk hz561
  have HZ562 := Aside0.mk hz562
  clear hi3 hz30 hz31 hz32 hi56 hz560 hz561 hz562
  go_enter Try.func38, Try.ntmps38
  go_wp2_with fail
  refine (coords3 _).mono ?_
  rintro e w1 ⟨v, rfl, hR, hb⟩
  obtain ⟨gl, cl, lc, rfl, hlc, hgl, hcl, hcr⟩ := crd_cells hR
  rw [World.size_alloc] at hgl
  have hres := blk_below (blk_new w (.cells #[.int .i64 0, .slice none 0 0] 26)) hb
  have HS := Aside0.mk (show PSt w lc gl w1.heap.size (.slice none 0 0) (w1.alloc (.cells #[.int .i64 13, .slice none 0 0] 26)) from ⟨blk_alloc hres _, blk_new _ _, blk_alloc hlc _, blk_lt hres, below_alloc (below_then (below_alloc (Below.refl _ _) _) (by rw [World.size_alloc]; omega) hb) _⟩)
  have HCR := Aside0.mk hcr
  have hgz := blk_lt hlc
  clear hR hb hcr hres hlc
  go_wp2_with fail
  have hM0 : Aside0 (T.M2 w.heap.size (.slice none 0 0) (.slice none 0 0) (T.linesUpto 0) [] (w1.alloc (.cells #[.int .i64 13, .slice none 0 0] 26))) := ⟨⟨fun _ => False, fun _ => False, fun _ h => h.elim, Kd.S_nil _ _ _ _ _, Kd.R_nil _ _ _ _ _⟩⟩
  generalize w1.heap.size = bd at HS hgz ⊢
  go_loopw [5] (fun i wr => ∃ j : Nat, j ≤ 13 ∧ i = .int .i64 j ∧ ∃ vG, Aside0 (PSt w lc gl bd vG wr) ∧ Aside0 (T.M2 w.heap.size vG (.slice none 0 0) (T.linesUpto j) [] wr)) (fun i _ => 13 - (intOf i).toNat)
  case atStart => exact ⟨0, by omega, rfl, _, HS, hM0⟩
  case round =>
    obtain ⟨i, hi, rfl, vG, S1, M1⟩ := hrel
    by_cases hi13 : i < 13
    · have di : decide ((i : Int) < 13) = true := decide_eq_true (by omega)
      go_wp2_with fail
      go_loopw [6, 7] (fun li k wr => ∃ j : Nat, j ≤ 13 ∧ k = .int .i64 j ∧ Aside0 (PSt w lc gl bd vG wr) ∧ Aside0 (T.M2 w.heap.size vG li (T.linesUpto i) (T.lineUpto i j) wr)) (fun _ k _ => 13 - (intOf k).toNat)
      case atStart => exact ⟨0, by omega, rfl, S1, M1⟩
      case round =>
        obtain ⟨k, hk, rfl, S2, M2⟩ := hrel
        by_cases hk13 : k < 13
        · have dk : decide ((k : Int) < 13) = true := decide_eq_true (by omega)
          clear S1 M1
          go_wp2_with fail
          go_loopw [8, 9] (fun s n wr => ∃ j : Nat, j ≤ 3 ∧ n = .int .i64 j ∧ s = .int .i64 ((T.sm i k j : Nat) : Int) ∧ Aside0 (PSt w lc gl bd vG wr) ∧ Aside0 (T.M2 w.heap.size vG u6 (T.linesUpto i) (T.lineUpto i k) wr)) (fun _ n _ => 3 - (intOf n).toNat)
          case atStart => exact ⟨0, by omega, rfl, rfl, S2, M2⟩
          case round =>
            obtain ⟨n, hn, rfl, rfl, S3, M3⟩ := hrel
            by_cases hn3 : n < 3
            · have CI := Aside0.mk (T.cr_at i hi13 n hn3).2
              have CK := Aside0.mk (T.cr_at k hk13 n hn3).2
              have HADD : Aside0 (tegularef05_Add.f 10 3 ((T.sm i k n : Nat) : Int) ((T.cr i n * T.cr k n % 3 : Nat) : Int) = some ((T.sm i k (n + 1) : Nat) : Int)) := ⟨add3 _ (by have := T.sm_le i k n; omega) _ (by omega)⟩
              have hbi : ∀ X : BW' wr, X.w'.cell? ⟨gl, i * 3 + n, none⟩ = some (.int .i64 (T.cr i n)) := fun X => (blk_cell (blk_below S3.out.crd X.h) _).trans (HCR.out i hi13 n hn3)
              have hbk : ∀ X : BW' wr, X.w'.cell? ⟨gl, k * 3 + n, none⟩ = some (.int .i64 (T.cr k n)) := fun X => (blk_cell (blk_below S3.out.crd X.h) _).trans (HCR.out k hk13 n hn3)
              have dn : decide ((n : Int) < 3) = true := decide_eq_true (by omega)
              go_wp2_with fail
              refine region_quiet_bw' (by kernel_rfl) (by kernel_rfl) ?_
              repeat (first | go_big_quiet_step ((first | (go_at_call 50; rename_i X; refine (mul3 (T.cr i n) (T.cr k n) CI.out CK.out _).mono ?_; rintro e w5 ⟨rfl, hb5⟩; exact ⟨rfl, ⟨⟨w5, below_step X.h hb5⟩, rfl⟩⟩) | (go_at_call 49; rename_i X; refine (tegularef05_Add.calls 10 3 (T.sm i k n : Nat) ((T.cr i n * T.cr k n % 3 : Nat) : Int) ((T.sm i k (n + 1) : Nat) : Int) _ HADD.out).mono ?_; rintro e w5 ⟨rfl, hb5⟩; exact ⟨rfl, ⟨⟨w5, below_step X.h hb5⟩, rfl⟩⟩))) | quiet_step ((first | (go_at_call 50; rename_i X; refine (mul3 (T.cr i n) (T.cr k n) CI.out CK.out _).mono ?_; rintro e w5 ⟨rfl, hb5⟩; exact ⟨rfl, ⟨⟨w5, below_step X.h hb5⟩, rfl⟩⟩) | (go_at_call 49; rename_i X; refine (tegularef05_Add.calls 10 3 (T.sm i k n : Nat) ((T.cr i n * T.cr k n % 3 : Nat) : Int) ((T.sm i k (n + 1) : Nat) : Int) _ HADD.out).mono ?_; rintro e w5 ⟨rfl, hb5⟩; exact ⟨rfl, ⟨⟨w5, below_step X.h hb5⟩, rfl⟩⟩))))
              refine wpQuiet_nil ?_
              rintro _ ⟨X, rfl⟩
              have S4 := Aside0.mk (S3.out.below X.h)
              have M4 := Aside0.mk (M3.out.below X.h)
              clear S3 M3 hbi hbk
              go_wp2
              go_roundw
              case rel => exact ⟨n + 1, by omega, by go_num, rfl, S4, M4⟩
              case measure => simp [intOf]; omega
            · have e3 : n = 3 := by omega
              cases hz : (T.sm i k 3 == 0) with
              | true =>
                have HL := Aside0.mk (T.lineUpto_yes hz)
                have hz2 : (((T.sm i k n : Nat) : Int) == 0) = true := by rw [e3, beq_iff_eq]; rw [beq_iff_eq] at hz; omega
                have HZ := Aside0.mk hz
                have hlen := T.lineUpto_len i k
                obtain ⟨m, hm⟩ : ∃ m, m = (T.lineUpto i k).length := ⟨_, rfl⟩
                obtain ⟨AL, cL, hsl⟩ := M3.out.sliceL
                rw [← hm] at hsl hlen
                subst hsl
                have HOWN := Aside0.mk (M3.out.own)
                rw [← hm] at HOWN
                have HMM := Aside0.mk hm
                clear hz hm S2 M2 e3
                go_wp2_with (at_builtin; refine wpList_append_lies _ rfl _ _ _ rfl w.heap.size 3 i3 _ 1 8 Try.underlying56 HI3.out HZ30.out HZ31.out HZ32.out rfl (by omega) (.slice AL m cL) m _ rfl (HOWN.out.alloc _) ⟨wr.heap.size, 0, none⟩ 1 1 [.int .i64 k] rfl rfl (World.news_of_block (cs := #[.int .i64 k]) (t := 3) (fr := (0, 0)) (heap_alloc_new wr _)) (by simp [Value.oneCell']) (by omega) (by unfold maxLen; omega) (by omega) (by rw [World.size_alloc]; exact Nat.le_succ_of_le S3.out.bel.size) (wr.heap.size + 1) (by rw [World.size_alloc]) ?_; intro gg cap1 w12 hown12 hgrow12 hat12 hlt12; have S4 := Aside0.mk ((S3.out.below (below_alloc (Below.refl _ _) _)).grown hgrow12 (own_block' (HOWN.out.alloc _) (.inl rfl))); have M4 := Aside0.mk ((M3.out.alloc _).cur (vL' := .slice (some ⟨gg, 0, none⟩) (m + 1) cap1) (cu' := T.lineUpto i (k + 1)) hgrow12 (hat12.elim (fun e => .inl (by rw [e]; rfl)) (fun e => .inr ⟨gg, rfl, by rw [World.size_alloc]; omega⟩)) (by rw [HL.out, ← encs_snoc', List.length_append, ← HMM.out]; exact hown12)); clear hown12 hgrow12 hat12 hlt12)
                clear S3 M3
                go_roundw
                case rel => exact ⟨k + 1, by omega, by go_num, S4, M4⟩
                case measure => simp [intOf]; omega
              | false =>
                have HL := Aside0.mk (T.lineUpto_no hz)
                have hz2 : (((T.sm i k n : Nat) : Int) == 0) = false := by rw [e3, beq_eq_false_iff_ne]; rw [beq_eq_false_iff_ne] at hz; omega
                have HZ := Aside0.mk hz
                have M4 : Aside0 (T.M2 w.heap.size vG u6 (T.linesUpto i) (T.lineUpto i (k + 1)) wr) := ⟨by rw [HL.out]; exact M3.out⟩
                clear hz S2 M2 e3 M3
                go_wp2
                go_roundw
                case rel => exact ⟨k + 1, by omega, by go_num, S3, M4⟩
                case measure => simp [intOf]; omega
        · have ek : k = 13 := by omega
          have M3 : Aside0 (T.M2 w.heap.size vG u6 (T.linesUpto i) (T.lineUpto i 13) wr) := ⟨by have h := M2.out; rw [ek] at h; exact h⟩
          clear M2 ek S1 M1
          obtain ⟨inner, hin, hrest⟩ := (M3.out.alloc (.cells #[u6] 56)).row
          rw [T.linesUpto_len] at hin hrest
          have HIN := Aside0.mk hin
          have HREST := Aside0.mk (@hrest)
          obtain ⟨AG, cG, hG⟩ := M3.out.slice
          rw [T.linesUpto_len] at hG
          obtain ⟨AL, cL, hsl⟩ := M3.out.sliceL
          obtain ⟨m, hm⟩ : ∃ m, m = (T.lineUpto i 13).length := ⟨_, rfl⟩
          rw [← hm] at hsl
          clear hm
          subst hG hsl
          clear hin hrest
          have hcn1 := (blk_cell S2.out.num 1).trans (rfl : _ = some _)
          simp at hcn1
          go_wp2_with (at_builtin; refine wpList_append_lies _ rfl _ _ _ rfl w.heap.size 56 i56 _ 1 24 Try.underlying24 HI56.out HZ560.out HZ561.out HZ562.out rfl (by omega) (.slice AG i cG) i _ rfl HIN.out ⟨wr.heap.size, 0, none⟩ 1 1 [.slice AL m cL] rfl rfl (World.news_of_block (cs := #[.slice AL m cL]) (t := 56) (fr := (0, 0)) (heap_alloc_new wr _)) (by simp [Value.oneCell']) (by omega) (by unfold maxLen; omega) (by omega) (by rw [World.size_alloc]; exact Nat.le_succ_of_le S2.out.bel.size) (wr.heap.size + 1) (by rw [World.size_alloc]) ?_; intro gg cap1 w15 hown15 hgrow15 hat15 hlt15; have S15 := Aside0.mk ((S2.out.below (below_alloc (Below.refl _ _) _)).grown hgrow15 (own_block' HIN.out (.inr rfl))); have M15 := Aside0.mk (HREST.out (vG' := .slice (some ⟨gg, 0, none⟩) (i + 1) cap1) hgrow15 (hat15.elim (fun e => .inl (by rw [e]; rfl)) (fun e => .inr ⟨gg, rfl, by rw [World.size_alloc]; omega⟩)) hown15); clear hown15 hgrow15 hat15 hlt15 hcn1; have hcn1 := (blk_cell S15.out.num 1).trans (rfl : _ = some _); simp at hcn1; have hfn1 := blk_frozen S15.out.num 1)
          have S16 := Aside0.mk (S15.out.set (.slice (some ⟨gg, 0, none⟩) (i + 1) cap1))
          have M16 := Aside0.mk (M15.out.set S15.out.num (by decide) 1 (.slice (some ⟨gg, 0, none⟩) (i + 1) cap1))
          rw [← T.linesUpto_succ] at M16
          clear S15 M15 HIN HREST hcn1 hfn1
          go_roundw
          case rel => exact ⟨i + 1, by omega, by go_num, _, S16, M16⟩
          case measure => simp [intOf]; omega
    · have ei : i = 13 := by omega
      have M2 : Aside0 (T.M2 w.heap.size vG (.slice none 0 0) (T.linesUpto 13) [] wr) := ⟨by have h := M1.out; rw [ei] at h; exact h⟩
      clear M1 hM0 HS ei
      obtain ⟨AG, cG, hG⟩ := M2.out.slice
      rw [T.linesUpto_len] at hG
      subst hG
      have hcn0 := (blk_cell S1.out.num 0).trans (rfl : _ = some _)
      have hcn1 := (blk_cell S1.out.num 1).trans (rfl : _ = some _)
      have hcr0 := (blk_cell S1.out.res 0).trans (rfl : _ = some _)
      have hcr1 := (blk_cell S1.out.res 1).trans (rfl : _ = some _)
      have hfr0 := blk_frozen S1.out.res 0
      have hfr1 := blk_frozen S1.out.res 1
      simp at hcn0 hcn1 hcr0 hcr1
      go_wp2
      have hB1 := blk_set S1.out.res 0 (.int .i64 13)
      exact bodyPost_ret (results_cell_row rfl _ _ w.heap.size 26 #[.int .i64 13, .slice AG 13 cG] (0, 0) _ rfl (blk_put (cs := #[.int .i64 13, .slice none 0 0]) (blk_put (cs := #[.int .i64 0, .slice none 0 0]) S1.out.res 0 _ rfl) 1 _ rfl) Try.underlying26 rfl (by kernel_rfl)) rfl ⟨_, rfl, ((M2.out.set S1.out.res (by decide) 0 (.int .i64 13)).set hB1 (by decide) 1 (.slice AG 13 cG)).groups, below_set (below_set S1.out.bel (Nat.le_refl _)) (Nat.le_refl _)⟩
/-- What Projective answers (told at size 3 alone). -/
def tegularef06_Projective.f (a0 : Int) : Option (Int × (List (List Int))) := if a0 = 3 then some (13, T.linesUpto 13) else none
theorem tegularef06_Projective.calls (a0 : Int) (r1 : Int) (r2 : List (List Int)) (w : World) (h : tegularef06_Projective.f a0 = some (r1, r2)) :
    Calls Try.prog 38 #[.int .i64 a0] w fun e w' => ∃ v1_ : Value, e = .returned (.agg #[.int .i64 r1, v1_]) ∧ Kd.S (Kd.slice 3 (Kd.int .i64)) 56 w' w.heap.size (fun _ => True) v1_ r2 ∧ Below w.heap.size w w' := by
  unfold tegularef06_Projective.f at h
  split at h
  · rename_i e
    subst e
    injection h with h
    injection h with h1 h2
    subst h1 h2
    exact proj3 w
  · cases h
end Go.Proofs.Ytebnladkogkpfaa.Q
