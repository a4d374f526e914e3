import Derived.Test.YtebnladkogkpfaaG39A
/-! The walk of layout.measure. -/
namespace Go.Proofs.Ytebnladkogkpfaa.Q
open Go.RowKit Go.Proofs.YtebnladkogkpfaaW.PrintWords Go.Proofs.YtebnladkogkpfaaW.PrintLast Go.Proofs.YtebnladkogkpfaaW.PrintMore
open T (tabOf prs)
set_option linter.unusedVariables false
set_option linter.unusedSimpArgs false

set_option maxHeartbeats 8000000 in
set_option maxRecDepth 100000 in
theorem meas_bad (a0 : Int) (A : Option Addr) (c : Nat) (l : List (List Int)) (a2 a3 : Int) (w : World) (hr : Kd.C (Kd.slice 3 (Kd.int .i64)) w A l.length l) (hc : l.length ≤ c) (r1 r2 r3 : Int) (h : checkD a0 l = (r1, r2, r3)) (h3 : r3 ≠ 0) :
    Calls Try.prog 39 #[.agg #[.int .i64 a0, .slice A l.length c, .int .i64 a2, .int .i64 a3]] w fun e w' => e = .returned (.tuple #[.agg noCells, .bool false]) ∧ Below w.heap.size w w' := by
  have hu26 := Try.underlying26
  have hu28 := Try.underlying28
  have hu67 := Try.underlying67
  have HR := Aside0.mk hr
  have HC := Aside0.mk hc
  have H := Aside0.mk h
  have hn : (r3 != 0) = true := by simpa using h3
  clear hr hc h h3
  go_enter Try.func39, Try.ntmps39
  go_wp2_with fail
  refine (design_Check.calls a0 A c l r1 r2 r3 _ (Kd.C_alloc (Kd.C_alloc HR.out _) _) HC.out (congrArg some H.out)).mono ?_
  rintro e w1 ⟨rfl, hb1⟩
  have HZ := Aside0.mk (blk_below (blk_new (w.alloc _) _) hb1)
  rw [World.size_alloc] at HZ
  have HB := Aside0.mk (below_then (below_alloc (below_alloc (Below.refl w.heap.size w) _) _) (by rw [World.size_alloc, World.size_alloc]; omega) hb1)
  clear hb1
  have hcz0 := (blk_cell HZ.out 0).trans (rfl : _ = some _)
  have hfz0 := blk_frozen HZ.out 0
  have hcz1 := (blk_cell HZ.out 1).trans (rfl : _ = some _)
  have hfz1 := blk_frozen HZ.out 1
  have hcz2 := (blk_cell HZ.out 2).trans (rfl : _ = some _)
  have hfz2 := blk_frozen HZ.out 2
  have hcz3 := (blk_cell HZ.out 3).trans (rfl : _ = some _)
  have hfz3 := blk_frozen HZ.out 3
  have hcz4 := (blk_cell HZ.out 4).trans (rfl : _ = some _)
  have hfz4 := blk_frozen HZ.out 4
  have hcz5 := (blk_cell HZ.out 5).trans (rfl : _ = some _)
  have hfz5 := blk_frozen HZ.out 5
  have hcz6 := (blk_cell HZ.out 6).trans (rfl : _ = some _)
  have hfz6 := blk_frozen HZ.out 6
  have hcz7 := (blk_cell HZ.out 7).trans (rfl : _ = some _)
  have hfz7 := blk_frozen HZ.out 7
  have hcz8 := (blk_cell HZ.out 8).trans (rfl : _ = some _)
  have hfz8 := blk_frozen HZ.out 8
  have hcz9 := (blk_cell HZ.out 9).trans (rfl : _ = some _)
  have hfz9 := blk_frozen HZ.out 9
  have hcz10 := (blk_cell HZ.out 10).trans (rfl : _ = some _)
  have hfz10 := blk_frozen HZ.out 10
  go_wp2
  exact bodyPost_ret (results_list (rs := [.cell 2 67, .tmp 3]) rfl (by simp) (.cell (w.heap.size + 1) 67 noCells (0, 0) _ rfl (set11 HZ.out _ _ _ _ _ _ _ _ _ _ _) Try.underlying67 rfl (by kernel_rfl) (.tmp .nil))) rfl ⟨rfl, below11 HB.out (by omega) _ _ _ _ _ _ _ _ _ _ _⟩

set_option maxHeartbeats 8000000 in
set_option maxRecDepth 100000 in
theorem meas_ok (D : Nat) (A : Option Addr) (c : Nat) (l : List (List Int)) (a2 a3 : Int) (w : World) (hr : Kd.C (Kd.slice 3 (Kd.int .i64)) w A l.length l) (hc : l.length ≤ c) (r lam : Int) (h : checkD D l = (r, lam, 0)) (hf : formedB D l = true) :
    Calls Try.prog 39 #[.agg #[.int .i64 D, .slice A l.length c, .int .i64 a2, .int .i64 a3]] w fun e w' => ∃ v, e = .returned (.tuple #[v, .bool (measD D l a2 a3).2]) ∧ NumsAt (measD D l a2 a3).1 w' v ∧ Below w.heap.size w w' := by
  have hu26 := Try.underlying26
  have hu28 := Try.underlying28
  have hu67 := Try.underlying67
  have HR := Aside0.mk hr
  have HC := Aside0.mk hc
  have H := Aside0.mk h
  have HF := Aside0.mk (fm_of hf).2
  have hlen : 0 < l.length := by
    simp only [formedB, Bool.and_eq_true, decide_eq_true_eq] at hf
    omega
  have hll := HF.out.len
  have HFB := Aside0.mk hf
  have hrb := r_bound h hf
  clear hr hc h hf
  obtain ⟨ad, A0, c0, e0, hx0, hl0, hi0⟩ := at_L1 HR.out (0 : Int) (by omega) (by omega)
  subst e0
  rw [show ((0 : Int)).toNat = 0 from rfl, Addr.add_zero'] at hx0
  have hhl : (rd_L1 l 0).length = headLen l := rfl
  rw [hhl] at hx0
  have HX0 := Aside0.mk hx0
  clear hx0 hl0 hi0 hhl
  go_enter Try.func39, Try.ntmps39
  go_wp2_with fail
  refine (design_Check.calls D (some ad) c l r lam 0 _ (Kd.C_alloc (Kd.C_alloc HR.out _) _) HC.out (congrArg some H.out)).mono ?_
  rintro e w1 ⟨rfl, hb1⟩
  have HZ := Aside0.mk (blk_below (blk_new (w.alloc _) _) hb1)
  have HX := Aside0.mk (blk_below (blk_alloc (blk_new w _) _) hb1)
  rw [World.size_alloc] at HZ
  have HB := Aside0.mk (below_then (below_alloc (below_alloc (Below.refl w.heap.size w) _) _) (by rw [World.size_alloc, World.size_alloc]; omega) hb1)
  clear hb1
  have hx0 := pw_cell_below HB.out HX0.out
  have hz : w.heap.size + 1 < w1.heap.size := blk_lt HZ.out
  have hz2 : w.heap.size < w1.heap.size := by omega
  have hz3 : ad.block < w1.heap.size := World.block_lt_of_cell? w1 _ hx0
  have hz4 : ¬ (ad.block = w1.heap.size) := by omega
  have hz5 : ¬ (w.heap.size = w1.heap.size) := by omega
  have hcb0 := (blk_cell HX.out 0).trans (rfl : _ = some _)
  have hcb1 := (blk_cell HX.out 1).trans (rfl : _ = some _)
  have hcb2 := (blk_cell HX.out 2).trans (rfl : _ = some _)
  have hcb3 := (blk_cell HX.out 3).trans (rfl : _ = some _)
  simp at hcb0 hcb1 hcb2 hcb3
  go_wp2_with fail
  go_region
  obtain ⟨W, hW⟩ : ∃ W : Int, W = (headLen l : Int) := ⟨_, rfl⟩
  refine letter (F := fun w' => Exit.then _ _ _ _ w') (P := St w #[.int .i64 D, .slice (some ad) l.length c, .int .i64 a2, .int .i64 a3] #[.int .i64 D, .slice (some ad) l.length c, .int .i64 a2, .int .i64 a3, .int .i64 (headLen l), .int .i64 r, .int .i64 l.length, .slice none 0 0, .slice none 0 0, .int .i64 0, .int .i64 0] w1.heap.size) ⟨blk_drew (blk_alloc HX.out _), blk_drew (blk_alloc HZ.out _), blk_drew (blk_new _ _), hz, below_drew (below_alloc HB.out _)⟩ ?_
  intro w3 hs
  generalize w1.heap.size = b7 at hs
  rw [← hW] at hs
  have HW := Aside0.mk hW
  have S3 := Aside0.mk hs
  clear hW hs hcb0 hcb1 hcb2 hcb3 HZ HX HB hx0 hz hz2 hz3 hz4 hz5
  have hcb0 := (blk_cell S3.out.box 0).trans (rfl : _ = some _)
  have hcb1 := (blk_cell S3.out.box 1).trans (rfl : _ = some _)
  have hcb2 := (blk_cell S3.out.box 2).trans (rfl : _ = some _)
  have hcb3 := (blk_cell S3.out.box 3).trans (rfl : _ = some _)
  have hcn4 := (blk_cell S3.out.num 4).trans (rfl : _ = some _)
  simp at hcb0 hcb1 hcb2 hcb3 hcn4
  by_cases q0 : W ≤ 3
  · have HN : Aside0 (measD D l a2 a3 = (noNums, false)) := ⟨measD_no HFB.out (fun hk => by have h_ := hk.1; have := HW.out; omega)⟩
    have qb0 : decide (W ≤ 3) = true := decide_eq_true q0
    clear q0
    have hcz0 := (blk_cell S3.out.res 0).trans (rfl : _ = some _)
    have hfz0 := blk_frozen S3.out.res 0
    have hcz1 := (blk_cell S3.out.res 1).trans (rfl : _ = some _)
    have hfz1 := blk_frozen S3.out.res 1
    have hcz2 := (blk_cell S3.out.res 2).trans (rfl : _ = some _)
    have hfz2 := blk_frozen S3.out.res 2
    have hcz3 := (blk_cell S3.out.res 3).trans (rfl : _ = some _)
    have hfz3 := blk_frozen S3.out.res 3
    have hcz4 := (blk_cell S3.out.res 4).trans (rfl : _ = some _)
    have hfz4 := blk_frozen S3.out.res 4
    have hcz5 := (blk_cell S3.out.res 5).trans (rfl : _ = some _)
    have hfz5 := blk_frozen S3.out.res 5
    have hcz6 := (blk_cell S3.out.res 6).trans (rfl : _ = some _)
    have hfz6 := blk_frozen S3.out.res 6
    have hcz7 := (blk_cell S3.out.res 7).trans (rfl : _ = some _)
    have hfz7 := blk_frozen S3.out.res 7
    have hcz8 := (blk_cell S3.out.res 8).trans (rfl : _ = some _)
    have hfz8 := blk_frozen S3.out.res 8
    have hcz9 := (blk_cell S3.out.res 9).trans (rfl : _ = some _)
    have hfz9 := blk_frozen S3.out.res 9
    have hcz10 := (blk_cell S3.out.res 10).trans (rfl : _ = some _)
    have hfz10 := blk_frozen S3.out.res 10
    go_wp2
    exact bodyPost_ret (results_list (rs := [.cell 2 67, .tmp 3]) rfl (by simp) (.cell (w.heap.size + 1) 67 noCells (0, 0) _ rfl (set11 S3.out.res _ _ _ _ _ _ _ _ _ _ _) Try.underlying67 rfl (by kernel_rfl) (.tmp .nil))) rfl (meas_end HN.out (below11 S3.out.bel (by omega) _ _ _ _ _ _ _ _ _ _ _))
  have qb0 : decide (W ≤ 3) = false := decide_eq_false q0
  by_cases q1 : 16 < W
  · have HN : Aside0 (measD D l a2 a3 = (noNums, false)) := ⟨measD_no HFB.out (fun hk => by have h_ := hk.1; have := HW.out; omega)⟩
    have qb1 : decide (16 < W) = true := decide_eq_true q1
    clear q1
    have hcz0 := (blk_cell S3.out.res 0).trans (rfl : _ = some _)
    have hfz0 := blk_frozen S3.out.res 0
    have hcz1 := (blk_cell S3.out.res 1).trans (rfl : _ = some _)
    have hfz1 := blk_frozen S3.out.res 1
    have hcz2 := (blk_cell S3.out.res 2).trans (rfl : _ = some _)
    have hfz2 := blk_frozen S3.out.res 2
    have hcz3 := (blk_cell S3.out.res 3).trans (rfl : _ = some _)
    have hfz3 := blk_frozen S3.out.res 3
    have hcz4 := (blk_cell S3.out.res 4).trans (rfl : _ = some _)
    have hfz4 := blk_frozen S3.out.res 4
    have hcz5 := (blk_cell S3.out.res 5).trans (rfl : _ = some _)
    have hfz5 := blk_frozen S3.out.res 5
    have hcz6 := (blk_cell S3.out.res 6).trans (rfl : _ = some _)
    have hfz6 := blk_frozen S3.out.res 6
    have hcz7 := (blk_cell S3.out.res 7).trans (rfl : _ = some _)
    have hfz7 := blk_frozen S3.out.res 7
    have hcz8 := (blk_cell S3.out.res 8).trans (rfl : _ = some _)
    have hfz8 := blk_frozen S3.out.res 8
    have hcz9 := (blk_cell S3.out.res 9).trans (rfl : _ = some _)
    have hfz9 := blk_frozen S3.out.res 9
    have hcz10 := (blk_cell S3.out.res 10).trans (rfl : _ = some _)
    have hfz10 := blk_frozen S3.out.res 10
    go_wp2
    exact bodyPost_ret (results_list (rs := [.cell 2 67, .tmp 3]) rfl (by simp) (.cell (w.heap.size + 1) 67 noCells (0, 0) _ rfl (set11 S3.out.res _ _ _ _ _ _ _ _ _ _ _) Try.underlying67 rfl (by kernel_rfl) (.tmp .nil))) rfl (meas_end HN.out (below11 S3.out.bel (by omega) _ _ _ _ _ _ _ _ _ _ _))
  have qb1 : decide (16 < W) = false := decide_eq_false q1
  by_cases q2 : a2 < 1
  · have HN : Aside0 (measD D l a2 a3 = (noNums, false)) := ⟨measD_no HFB.out (fun hk => by have h_ := hk.1; have := HW.out; omega)⟩
    have qb2 : decide (a2 < 1) = true := decide_eq_true q2
    clear q2
    have hcz0 := (blk_cell S3.out.res 0).trans (rfl : _ = some _)
    have hfz0 := blk_frozen S3.out.res 0
    have hcz1 := (blk_cell S3.out.res 1).trans (rfl : _ = some _)
    have hfz1 := blk_frozen S3.out.res 1
    have hcz2 := (blk_cell S3.out.res 2).trans (rfl : _ = some _)
    have hfz2 := blk_frozen S3.out.res 2
    have hcz3 := (blk_cell S3.out.res 3).trans (rfl : _ = some _)
    have hfz3 := blk_frozen S3.out.res 3
    have hcz4 := (blk_cell S3.out.res 4).trans (rfl : _ = some _)
    have hfz4 := blk_frozen S3.out.res 4
    have hcz5 := (blk_cell S3.out.res 5).trans (rfl : _ = some _)
    have hfz5 := blk_frozen S3.out.res 5
    have hcz6 := (blk_cell S3.out.res 6).trans (rfl : _ = some _)
    have hfz6 := blk_frozen S3.out.res 6
    have hcz7 := (blk_cell S3.out.res 7).trans (rfl : _ = some _)
    have hfz7 := blk_frozen S3.out.res 7
    have hcz8 := (blk_cell S3.out.res 8).trans (rfl : _ = some _)
    have hfz8 := blk_frozen S3.out.res 8
    have hcz9 := (blk_cell S3.out.res 9).trans (rfl : _ = some _)
    have hfz9 := blk_frozen S3.out.res 9
    have hcz10 := (blk_cell S3.out.res 10).trans (rfl : _ = some _)
    have hfz10 := blk_frozen S3.out.res 10
    go_wp2
    exact bodyPost_ret (results_list (rs := [.cell 2 67, .tmp 3]) rfl (by simp) (.cell (w.heap.size + 1) 67 noCells (0, 0) _ rfl (set11 S3.out.res _ _ _ _ _ _ _ _ _ _ _) Try.underlying67 rfl (by kernel_rfl) (.tmp .nil))) rfl (meas_end HN.out (below11 S3.out.bel (by omega) _ _ _ _ _ _ _ _ _ _ _))
  have qb2 : decide (a2 < 1) = false := decide_eq_false q2
  by_cases q3 : 256 < a2
  · have HN : Aside0 (measD D l a2 a3 = (noNums, false)) := ⟨measD_no HFB.out (fun hk => by have h_ := hk.1; have := HW.out; omega)⟩
    have qb3 : decide (256 < a2) = true := decide_eq_true q3
    clear q3
    have hcz0 := (blk_cell S3.out.res 0).trans (rfl : _ = some _)
    have hfz0 := blk_frozen S3.out.res 0
    have hcz1 := (blk_cell S3.out.res 1).trans (rfl : _ = some _)
    have hfz1 := blk_frozen S3.out.res 1
    have hcz2 := (blk_cell S3.out.res 2).trans (rfl : _ = some _)
    have hfz2 := blk_frozen S3.out.res 2
    have hcz3 := (blk_cell S3.out.res 3).trans (rfl : _ = some _)
    have hfz3 := blk_frozen S3.out.res 3
    have hcz4 := (blk_cell S3.out.res 4).trans (rfl : _ = some _)
    have hfz4 := blk_frozen S3.out.res 4
    have hcz5 := (blk_cell S3.out.res 5).trans (rfl : _ = some _)
    have hfz5 := blk_frozen S3.out.res 5
    have hcz6 := (blk_cell S3.out.res 6).trans (rfl : _ = some _)
    have hfz6 := blk_frozen S3.out.res 6
    have hcz7 := (blk_cell S3.out.res 7).trans (rfl : _ = some _)
    have hfz7 := blk_frozen S3.out.res 7
    have hcz8 := (blk_cell S3.out.res 8).trans (rfl : _ = some _)
    have hfz8 := blk_frozen S3.out.res 8
    have hcz9 := (blk_cell S3.out.res 9).trans (rfl : _ = some _)
    have hfz9 := blk_frozen S3.out.res 9
    have hcz10 := (blk_cell S3.out.res 10).trans (rfl : _ = some _)
    have hfz10 := blk_frozen S3.out.res 10
    go_wp2
    exact bodyPost_ret (results_list (rs := [.cell 2 67, .tmp 3]) rfl (by simp) (.cell (w.heap.size + 1) 67 noCells (0, 0) _ rfl (set11 S3.out.res _ _ _ _ _ _ _ _ _ _ _) Try.underlying67 rfl (by kernel_rfl) (.tmp .nil))) rfl (meas_end HN.out (below11 S3.out.bel (by omega) _ _ _ _ _ _ _ _ _ _ _))
  have qb3 : decide (256 < a2) = false := decide_eq_false q3
  by_cases q4 : a3 < 0
  · have HN : Aside0 (measD D l a2 a3 = (noNums, false)) := ⟨measD_no HFB.out (fun hk => by have h_ := hk.1; have := HW.out; omega)⟩
    have qb4 : decide (a3 < 0) = true := decide_eq_true q4
    clear q4
    have hcz0 := (blk_cell S3.out.res 0).trans (rfl : _ = some _)
    have hfz0 := blk_frozen S3.out.res 0
    have hcz1 := (blk_cell S3.out.res 1).trans (rfl : _ = some _)
    have hfz1 := blk_frozen S3.out.res 1
    have hcz2 := (blk_cell S3.out.res 2).trans (rfl : _ = some _)
    have hfz2 := blk_frozen S3.out.res 2
    have hcz3 := (blk_cell S3.out.res 3).trans (rfl : _ = some _)
    have hfz3 := blk_frozen S3.out.res 3
    have hcz4 := (blk_cell S3.out.res 4).trans (rfl : _ = some _)
    have hfz4 := blk_frozen S3.out.res 4
    have hcz5 := (blk_cell S3.out.res 5).trans (rfl : _ = some _)
    have hfz5 := blk_frozen S3.out.res 5
    have hcz6 := (blk_cell S3.out.res 6).trans (rfl : _ = some _)
    have hfz6 := blk_frozen S3.out.res 6
    have hcz7 := (blk_cell S3.out.res 7).trans (rfl : _ = some _)
    have hfz7 := blk_frozen S3.out.res 7
    have hcz8 := (blk_cell S3.out.res 8).trans (rfl : _ = some _)
    have hfz8 := blk_frozen S3.out.res 8
    have hcz9 := (blk_cell S3.out.res 9).trans (rfl : _ = some _)
    have hfz9 := blk_frozen S3.out.res 9
    have hcz10 := (blk_cell S3.out.res 10).trans (rfl : _ = some _)
    have hfz10 := blk_frozen S3.out.res 10
    go_wp2
    exact bodyPost_ret (results_list (rs := [.cell 2 67, .tmp 3]) rfl (by simp) (.cell (w.heap.size + 1) 67 noCells (0, 0) _ rfl (set11 S3.out.res _ _ _ _ _ _ _ _ _ _ _) Try.underlying67 rfl (by kernel_rfl) (.tmp .nil))) rfl (meas_end HN.out (below11 S3.out.bel (by omega) _ _ _ _ _ _ _ _ _ _ _))
  have qb4 : decide (a3 < 0) = false := decide_eq_false q4
  by_cases q5 : 65536 < a3
  · have HN : Aside0 (measD D l a2 a3 = (noNums, false)) := ⟨measD_no HFB.out (fun hk => by have h_ := hk.1; have := HW.out; omega)⟩
    have qb5 : decide (65536 < a3) = true := decide_eq_true q5
    clear q5
    have hcz0 := (blk_cell S3.out.res 0).trans (rfl : _ = some _)
    have hfz0 := blk_frozen S3.out.res 0
    have hcz1 := (blk_cell S3.out.res 1).trans (rfl : _ = some _)
    have hfz1 := blk_frozen S3.out.res 1
    have hcz2 := (blk_cell S3.out.res 2).trans (rfl : _ = some _)
    have hfz2 := blk_frozen S3.out.res 2
    have hcz3 := (blk_cell S3.out.res 3).trans (rfl : _ = some _)
    have hfz3 := blk_frozen S3.out.res 3
    have hcz4 := (blk_cell S3.out.res 4).trans (rfl : _ = some _)
    have hfz4 := blk_frozen S3.out.res 4
    have hcz5 := (blk_cell S3.out.res 5).trans (rfl : _ = some _)
    have hfz5 := blk_frozen S3.out.res 5
    have hcz6 := (blk_cell S3.out.res 6).trans (rfl : _ = some _)
    have hfz6 := blk_frozen S3.out.res 6
    have hcz7 := (blk_cell S3.out.res 7).trans (rfl : _ = some _)
    have hfz7 := blk_frozen S3.out.res 7
    have hcz8 := (blk_cell S3.out.res 8).trans (rfl : _ = some _)
    have hfz8 := blk_frozen S3.out.res 8
    have hcz9 := (blk_cell S3.out.res 9).trans (rfl : _ = some _)
    have hfz9 := blk_frozen S3.out.res 9
    have hcz10 := (blk_cell S3.out.res 10).trans (rfl : _ = some _)
    have hfz10 := blk_frozen S3.out.res 10
    go_wp2
    exact bodyPost_ret (results_list (rs := [.cell 2 67, .tmp 3]) rfl (by simp) (.cell (w.heap.size + 1) 67 noCells (0, 0) _ rfl (set11 S3.out.res _ _ _ _ _ _ _ _ _ _ _) Try.underlying67 rfl (by kernel_rfl) (.tmp .nil))) rfl (meas_end HN.out (below11 S3.out.bel (by omega) _ _ _ _ _ _ _ _ _ _ _))
  have qb5 : decide (65536 < a3) = false := decide_eq_false q5
  have K5 : Aside0 (4 ≤ W ∧ W ≤ 16 ∧ 1 ≤ a2 ∧ a2 ≤ 256 ∧ 0 ≤ a3 ∧ a3 ≤ 65536) := ⟨by omega⟩
  clear q0 q1 q2 q3 q4 q5
  have hcn5 := (blk_cell S3.out.num 5).trans (rfl : _ = some _)
  have hcn6 := (blk_cell S3.out.num 6).trans (rfl : _ = some _)
  have hcn9 := (blk_cell S3.out.num 9).trans (rfl : _ = some _)
  have hcn10 := (blk_cell S3.out.num 10).trans (rfl : _ = some _)
  simp at hcn5 hcn6 hcn9 hcn10
  have hfn9 := blk_frozen S3.out.num 9
  have hfn10 := blk_frozen S3.out.num 10
  go_wp2_with fail
  obtain ⟨Hm, hHm⟩ : ∃ Hm : Int, Hm = a2 * r := ⟨_, rfl⟩
  have hHb : 0 ≤ Hm ∧ Hm ≤ 3774873600 := by
    rw [hHm]
    obtain ⟨_, _, k1, k2, _, _⟩ := K5.out
    exact mul_bd (by omega) k2 hrb.1 hrb.2
  obtain ⟨Cp, hCp⟩ : ∃ Cp : Int, Cp = Hm + a3 := ⟨_, rfl⟩
  obtain ⟨P, hP⟩ : ∃ P : Int, P = a2 * (l.length : Int) := ⟨_, rfl⟩
  have hPb : 0 ≤ P ∧ P ≤ 1048576 := by
    rw [hP]
    obtain ⟨_, _, k1, k2, _, _⟩ := K5.out
    exact mul_bd (by omega) k2 (by omega) (show (l.length : Int) ≤ 4096 by omega)
  have eh : wrap64 (a2 * r) = Hm := by rw [← hHm]; exact wrap_small (by omega) (by omega)
  have ec : wrap64 (wrap64 (a2 * r) + a3) = Cp := by rw [eh, ← hCp]; obtain ⟨_, _, _, _, k1, k2⟩ := K5.out; exact wrap_small (by omega) (by omega)
  refine letter (F := fun w' => Code.wp _ _ _ _ w') (P := St w #[.int .i64 D, .slice (some ad) l.length c, .int .i64 a2, .int .i64 a3] #[.int .i64 D, .slice (some ad) l.length c, .int .i64 a2, .int .i64 a3, .int .i64 W, .int .i64 r, .int .i64 l.length, .slice none 0 0, .slice none 0 0, .int .i64 Hm, .int .i64 Cp] b7) ⟨blk_far (blk_far S3.out.box (by have := S3.out.low; show w.heap.size ≠ b7; omega) _) (by have := S3.out.low; show w.heap.size ≠ b7; omega) _, blk_far (blk_far S3.out.res (by have := S3.out.low; show w.heap.size + 1 ≠ b7; omega) _) (by have := S3.out.low; show w.heap.size + 1 ≠ b7; omega) _, ?stnum, S3.out.low, below_set (below_set S3.out.bel (by have := S3.out.low; omega)) (by have := S3.out.low; omega)⟩ ?_
  case stnum =>
    rw [ec, eh]
    exact blk_set (blk_set S3.out.num 9 (.int .i64 Hm)) 10 (.int .i64 Cp)
  intro w4 hs4
  have S4 := Aside0.mk hs4
  have HHm := Aside0.mk hHm
  have HCp := Aside0.mk hCp
  have HP := Aside0.mk hP
  have KC := Aside0.mk (show Cp = Hm + a3 from hCp)
  have hCb : 0 ≤ Cp ∧ Cp ≤ 3774939136 := by rw [hCp]; obtain ⟨_, _, _, _, k1, k2⟩ := K5.out; omega
  have hWb : 4 ≤ W ∧ W ≤ 16 := ⟨K5.out.1, K5.out.2.1⟩
  have eP : wrap64 (a2 * (l.length : Int)) = P := by rw [← hP]; exact wrap_small (by omega) (by omega)
  have eP2 : IntKind.i64.wrap (a2 * (l.length : Int)) = P := by rw [← hP]; exact IntWalk.i64_in _ (by omega)
  clear hs4 hHm hCp hP eh ec hcb0 hcb1 hcb2 hcb3 hcn4 hcn5 hcn6 hcn9 hcn10 hfn9 hfn10 S3 qb0 qb1 qb2 qb3 qb4 qb5
  have hcb2 := (blk_cell S4.out.box 2).trans (rfl : _ = some _)
  have hcx0 := (blk_cell S4.out.num 0).trans (rfl : _ = some _)
  have hcx1 := (blk_cell S4.out.num 1).trans (rfl : _ = some _)
  have hcx2 := (blk_cell S4.out.num 2).trans (rfl : _ = some _)
  have hcx3 := (blk_cell S4.out.num 3).trans (rfl : _ = some _)
  have hcx4 := (blk_cell S4.out.num 4).trans (rfl : _ = some _)
  have hcx5 := (blk_cell S4.out.num 5).trans (rfl : _ = some _)
  have hcx6 := (blk_cell S4.out.num 6).trans (rfl : _ = some _)
  have hcx7 := (blk_cell S4.out.num 7).trans (rfl : _ = some _)
  have hcx8 := (blk_cell S4.out.num 8).trans (rfl : _ = some _)
  have hcx9 := (blk_cell S4.out.num 9).trans (rfl : _ = some _)
  have hcx10 := (blk_cell S4.out.num 10).trans (rfl : _ = some _)
  simp at hcb2 hcx0 hcx1 hcx2 hcx3 hcx4 hcx5 hcx6 hcx7 hcx8 hcx9 hcx10
  by_cases p0 : 4096 < P
  · have HN : Aside0 (measD D l a2 a3 = (noNums, false)) := ⟨measD_no HFB.out (fun hk => by have h_ := hk.2.1; have := HP.out; omega)⟩
    have pb0 : decide (4096 < P) = true := decide_eq_true p0
    clear p0
    go_quiet (fail)
    have S5 : Aside0 (St w #[.int .i64 D, .slice (some ad) l.length c, .int .i64 a2, .int .i64 a3] #[.int .i64 D, .slice (some ad) l.length c, .int .i64 a2, .int .i64 a3, .int .i64 W, .int .i64 r, .int .i64 l.length, .slice none 0 0, .slice none 0 0, .int .i64 Hm, .int .i64 Cp] b7 (w4.drewN nq)) := ⟨⟨blk_drewN S4.out.box _, blk_drewN S4.out.res _, blk_drewN S4.out.num _, S4.out.low, pw_below_drewN S4.out.bel _⟩⟩
    have hcz0 := (blk_cell S5.out.res 0).trans (rfl : _ = some _)
    have hfz0 := blk_frozen S5.out.res 0
    have hcz1 := (blk_cell S5.out.res 1).trans (rfl : _ = some _)
    have hfz1 := blk_frozen S5.out.res 1
    have hcz2 := (blk_cell S5.out.res 2).trans (rfl : _ = some _)
    have hfz2 := blk_frozen S5.out.res 2
    have hcz3 := (blk_cell S5.out.res 3).trans (rfl : _ = some _)
    have hfz3 := blk_frozen S5.out.res 3
    have hcz4 := (blk_cell S5.out.res 4).trans (rfl : _ = some _)
    have hfz4 := blk_frozen S5.out.res 4
    have hcz5 := (blk_cell S5.out.res 5).trans (rfl : _ = some _)
    have hfz5 := blk_frozen S5.out.res 5
    have hcz6 := (blk_cell S5.out.res 6).trans (rfl : _ = some _)
    have hfz6 := blk_frozen S5.out.res 6
    have hcz7 := (blk_cell S5.out.res 7).trans (rfl : _ = some _)
    have hfz7 := blk_frozen S5.out.res 7
    have hcz8 := (blk_cell S5.out.res 8).trans (rfl : _ = some _)
    have hfz8 := blk_frozen S5.out.res 8
    have hcz9 := (blk_cell S5.out.res 9).trans (rfl : _ = some _)
    have hfz9 := blk_frozen S5.out.res 9
    have hcz10 := (blk_cell S5.out.res 10).trans (rfl : _ = some _)
    have hfz10 := blk_frozen S5.out.res 10
    go_wp2
    exact bodyPost_ret (results_list (rs := [.cell 2 67, .tmp 3]) rfl (by simp) (.cell (w.heap.size + 1) 67 noCells (0, 0) _ rfl (set11 S5.out.res _ _ _ _ _ _ _ _ _ _ _) Try.underlying67 rfl (by kernel_rfl) (.tmp .nil))) rfl (meas_end HN.out (below11 S5.out.bel (by omega) _ _ _ _ _ _ _ _ _ _ _))
  have pb0 : decide (4096 < P) = false := decide_eq_false p0
  obtain ⟨T2, hT2⟩ : ∃ T2 : Int, T2 = P * (W - 3) := ⟨_, rfl⟩
  have hTb : 0 ≤ T2 ∧ T2 ≤ 13631488 := by
    rw [hT2]
    exact mul_bd hPb.1 hPb.2 (by omega) (show W - 3 ≤ 13 by omega)
  have eT : wrap64 (P * (W - 3)) = T2 := by rw [← hT2]; exact wrap_small (by omega) (by omega)
  have eT2 : IntKind.i64.wrap (P * (W - 3)) = T2 := by rw [← hT2]; exact IntWalk.i64_in _ (by omega)
  have HT2 := Aside0.mk hT2
  clear hT2
  have hdat : layout_numbers_data.f D l a2 a3 W r l.length [] [] Hm Cp = some (W - 3) := by
    unfold layout_numbers_data.f
    rw [wrap_small (by omega) (by omega)]
  have HDAT := Aside0.mk hdat
  clear hdat
  have hbb2 : ∀ X : BW w4, X.w'.cell? ⟨w.heap.size, 2, none⟩ = _ := fun X => pw_cell_below X.h hcb2
  have hbx0 : ∀ X : BW w4, X.w'.cell? ⟨b7, 0, none⟩ = _ := fun X => pw_cell_below X.h hcx0
  have hbx1 : ∀ X : BW w4, X.w'.cell? ⟨b7, 1, none⟩ = _ := fun X => pw_cell_below X.h hcx1
  have hbx2 : ∀ X : BW w4, X.w'.cell? ⟨b7, 2, none⟩ = _ := fun X => pw_cell_below X.h hcx2
  have hbx3 : ∀ X : BW w4, X.w'.cell? ⟨b7, 3, none⟩ = _ := fun X => pw_cell_below X.h hcx3
  have hbx4 : ∀ X : BW w4, X.w'.cell? ⟨b7, 4, none⟩ = _ := fun X => pw_cell_below X.h hcx4
  have hbx5 : ∀ X : BW w4, X.w'.cell? ⟨b7, 5, none⟩ = _ := fun X => pw_cell_below X.h hcx5
  have hbx6 : ∀ X : BW w4, X.w'.cell? ⟨b7, 6, none⟩ = _ := fun X => pw_cell_below X.h hcx6
  have hbx7 : ∀ X : BW w4, X.w'.cell? ⟨b7, 7, none⟩ = _ := fun X => pw_cell_below X.h hcx7
  have hbx8 : ∀ X : BW w4, X.w'.cell? ⟨b7, 8, none⟩ = _ := fun X => pw_cell_below X.h hcx8
  have hbx9 : ∀ X : BW w4, X.w'.cell? ⟨b7, 9, none⟩ = _ := fun X => pw_cell_below X.h hcx9
  have hbx10 : ∀ X : BW w4, X.w'.cell? ⟨b7, 10, none⟩ = _ := fun X => pw_cell_below X.h hcx10
  clear hcb2 hcx0 hcx1 hcx2 hcx3 hcx4 hcx5 hcx6 hcx7 hcx8 hcx9 hcx10
  by_cases t0 : 65536 < T2
  · have HN : Aside0 (measD D l a2 a3 = (noNums, false)) := ⟨measD_no HFB.out (fun hk => by have h_ := hk.2.2.1; rw [← HP.out, ← HW.out, ← HT2.out] at h_; omega)⟩
    have tb0 : decide (65536 < T2) = true := decide_eq_true t0
    refine region_quiet_bw (by kernel_rfl) (by kernel_rfl) ?_
    repeat (first | go_big_quiet_step ((go_at_call 46; rename_i X; refine (layout_numbers_data.calls D (some ad) c l a2 a3 W r l.length none 0 [] none 0 [] Hm Cp _ _ (Kd.C_below (Kd.C_below HR.out S4.out.bel) X.h) HC.out (Kd.C_nil _ _) (Nat.le_refl _) (Kd.C_nil _ _) (Nat.le_refl _) HDAT.out).mono ?_; rintro e w5 ⟨rfl, hb5⟩; exact ⟨rfl, ⟨⟨w5, below_step X.h hb5⟩, rfl⟩⟩)) | quiet_step ((go_at_call 46; rename_i X; refine (layout_numbers_data.calls D (some ad) c l a2 a3 W r l.length none 0 [] none 0 [] Hm Cp _ _ (Kd.C_below (Kd.C_below HR.out S4.out.bel) X.h) HC.out (Kd.C_nil _ _) (Nat.le_refl _) (Kd.C_nil _ _) (Nat.le_refl _) HDAT.out).mono ?_; rintro e w5 ⟨rfl, hb5⟩; exact ⟨rfl, ⟨⟨w5, below_step X.h hb5⟩, rfl⟩⟩)))
    refine wpQuiet_nil ?_
    rintro _ ⟨X, rfl⟩
    have S5 : Aside0 (St w #[.int .i64 D, .slice (some ad) l.length c, .int .i64 a2, .int .i64 a3] #[.int .i64 D, .slice (some ad) l.length c, .int .i64 a2, .int .i64 a3, .int .i64 W, .int .i64 r, .int .i64 l.length, .slice none 0 0, .slice none 0 0, .int .i64 Hm, .int .i64 Cp] b7 X.w') := ⟨⟨blk_below S4.out.box X.h, blk_below S4.out.res X.h, blk_below S4.out.num X.h, S4.out.low, below_step S4.out.bel X.h⟩⟩
    have hcz0 := (blk_cell S5.out.res 0).trans (rfl : _ = some _)
    have hfz0 := blk_frozen S5.out.res 0
    have hcz1 := (blk_cell S5.out.res 1).trans (rfl : _ = some _)
    have hfz1 := blk_frozen S5.out.res 1
    have hcz2 := (blk_cell S5.out.res 2).trans (rfl : _ = some _)
    have hfz2 := blk_frozen S5.out.res 2
    have hcz3 := (blk_cell S5.out.res 3).trans (rfl : _ = some _)
    have hfz3 := blk_frozen S5.out.res 3
    have hcz4 := (blk_cell S5.out.res 4).trans (rfl : _ = some _)
    have hfz4 := blk_frozen S5.out.res 4
    have hcz5 := (blk_cell S5.out.res 5).trans (rfl : _ = some _)
    have hfz5 := blk_frozen S5.out.res 5
    have hcz6 := (blk_cell S5.out.res 6).trans (rfl : _ = some _)
    have hfz6 := blk_frozen S5.out.res 6
    have hcz7 := (blk_cell S5.out.res 7).trans (rfl : _ = some _)
    have hfz7 := blk_frozen S5.out.res 7
    have hcz8 := (blk_cell S5.out.res 8).trans (rfl : _ = some _)
    have hfz8 := blk_frozen S5.out.res 8
    have hcz9 := (blk_cell S5.out.res 9).trans (rfl : _ = some _)
    have hfz9 := blk_frozen S5.out.res 9
    have hcz10 := (blk_cell S5.out.res 10).trans (rfl : _ = some _)
    have hfz10 := blk_frozen S5.out.res 10
    go_wp2
    exact bodyPost_ret (results_list (rs := [.cell 2 67, .tmp 3]) rfl (by simp) (.cell (w.heap.size + 1) 67 noCells (0, 0) _ rfl (set11 S5.out.res _ _ _ _ _ _ _ _ _ _ _) Try.underlying67 rfl (by kernel_rfl) (.tmp .nil))) rfl (meas_end HN.out (below11 S5.out.bel (by omega) _ _ _ _ _ _ _ _ _ _ _))
  have tb0 : decide (65536 < T2) = false := decide_eq_false t0
  refine region_quiet_bw (by kernel_rfl) (by kernel_rfl) ?_
  repeat (first | go_big_quiet_step ((go_at_call 46; rename_i X; refine (layout_numbers_data.calls D (some ad) c l a2 a3 W r l.length none 0 [] none 0 [] Hm Cp _ _ (Kd.C_below (Kd.C_below HR.out S4.out.bel) X.h) HC.out (Kd.C_nil _ _) (Nat.le_refl _) (Kd.C_nil _ _) (Nat.le_refl _) HDAT.out).mono ?_; rintro e w5 ⟨rfl, hb5⟩; exact ⟨rfl, ⟨⟨w5, below_step X.h hb5⟩, rfl⟩⟩)) | quiet_step ((go_at_call 46; rename_i X; refine (layout_numbers_data.calls D (some ad) c l a2 a3 W r l.length none 0 [] none 0 [] Hm Cp _ _ (Kd.C_below (Kd.C_below HR.out S4.out.bel) X.h) HC.out (Kd.C_nil _ _) (Nat.le_refl _) (Kd.C_nil _ _) (Nat.le_refl _) HDAT.out).mono ?_; rintro e w5 ⟨rfl, hb5⟩; exact ⟨rfl, ⟨⟨w5, below_step X.h hb5⟩, rfl⟩⟩)))
  refine wpQuiet_nil ?_
  rintro _ ⟨X, rfl⟩
  have S5 : Aside0 (St w #[.int .i64 D, .slice (some ad) l.length c, .int .i64 a2, .int .i64 a3] #[.int .i64 D, .slice (some ad) l.length c, .int .i64 a2, .int .i64 a3, .int .i64 W, .int .i64 r, .int .i64 l.length, .slice none 0 0, .slice none 0 0, .int .i64 Hm, .int .i64 Cp] b7 X.w') := ⟨⟨blk_below S4.out.box X.h, blk_below S4.out.res X.h, blk_below S4.out.num X.h, S4.out.low, below_step S4.out.bel X.h⟩⟩
  by_cases c0_ : 65536 < Cp
  · have HN : Aside0 (measD D l a2 a3 = (noNums, false)) := ⟨measD_no HFB.out (fun hk => by have h_ := hk.2.2.2; rw [← r_of H.out HFB.out, ← HHm.out] at h_; have := HCp.out; omega)⟩
    have cb0 : decide (65536 < Cp) = true := decide_eq_true c0_
    have hcz0 := (blk_cell S5.out.res 0).trans (rfl : _ = some _)
    have hfz0 := blk_frozen S5.out.res 0
    have hcz1 := (blk_cell S5.out.res 1).trans (rfl : _ = some _)
    have hfz1 := blk_frozen S5.out.res 1
    have hcz2 := (blk_cell S5.out.res 2).trans (rfl : _ = some _)
    have hfz2 := blk_frozen S5.out.res 2
    have hcz3 := (blk_cell S5.out.res 3).trans (rfl : _ = some _)
    have hfz3 := blk_frozen S5.out.res 3
    have hcz4 := (blk_cell S5.out.res 4).trans (rfl : _ = some _)
    have hfz4 := blk_frozen S5.out.res 4
    have hcz5 := (blk_cell S5.out.res 5).trans (rfl : _ = some _)
    have hfz5 := blk_frozen S5.out.res 5
    have hcz6 := (blk_cell S5.out.res 6).trans (rfl : _ = some _)
    have hfz6 := blk_frozen S5.out.res 6
    have hcz7 := (blk_cell S5.out.res 7).trans (rfl : _ = some _)
    have hfz7 := blk_frozen S5.out.res 7
    have hcz8 := (blk_cell S5.out.res 8).trans (rfl : _ = some _)
    have hfz8 := blk_frozen S5.out.res 8
    have hcz9 := (blk_cell S5.out.res 9).trans (rfl : _ = some _)
    have hfz9 := blk_frozen S5.out.res 9
    have hcz10 := (blk_cell S5.out.res 10).trans (rfl : _ = some _)
    have hfz10 := blk_frozen S5.out.res 10
    go_wp2
    exact bodyPost_ret (results_list (rs := [.cell 2 67, .tmp 3]) rfl (by simp) (.cell (w.heap.size + 1) 67 noCells (0, 0) _ rfl (set11 S5.out.res _ _ _ _ _ _ _ _ _ _ _) Try.underlying67 rfl (by kernel_rfl) (.tmp .nil))) rfl (meas_end HN.out (below11 S5.out.bel (by omega) _ _ _ _ _ _ _ _ _ _ _))
  have cb0 : decide (65536 < Cp) = false := decide_eq_false c0_
  obtain ⟨w6, hw6⟩ : ∃ w6, w6 = X.w' := ⟨_, rfl⟩
  rw [← hw6] at S5 ⊢
  have HK : Aside0 (measOk (headLen l) (prs l 0 0) l.length a2 a3) := ⟨⟨by have := HW.out; have := K5.out; omega, by have := HP.out; rw [← this]; omega, by rw [← HP.out, ← HW.out, ← HT2.out]; omega, by rw [← r_of H.out HFB.out, ← HHm.out]; have := HCp.out; omega⟩⟩
  clear hw6 X hbb2 hbx0 hbx1 hbx2 hbx3 hbx4 hbx5 hbx6 hbx7 hbx8 hbx9 hbx10 eP eP2 eT eT2 S4 HDAT p0 t0 hHb hPb hTb hWb
  have hDlo := HF.out.lo
  have hDhi := HF.out.hi
  rw [Int.toNat_natCast] at hDlo hDhi
  have hlow := S5.out.low
  have hne1 : ¬ (w.heap.size = b7) := by omega
  have hcb0 := (blk_cell S5.out.box 0).trans (rfl : _ = some _)
  simp at hcb0
  have hcn8 := (blk_cell S5.out.num 8).trans (rfl : _ = some _)
  simp at hcn8
  go_wp2_with ((with_reducible refine gate_dst (N := 102) rfl ?_); refine Kd.S_make T.kR (w0 := w) w.heap.size 56 rfl (N := 102) rfl 24 (.tmp 101) (.tmp 101) rfl (D : Int) rfl rfl Try.underlying24 (.slice none 0 0) 24 info56 rfl (by decide) (by omega) ([] : List Int) (ok := fun _ => True) (okp := fun _ => True) ⟨_, rfl, Kd.R_nil _ _ _ _ _⟩ (fun _ h => h) trivial (by omega) (by rw [Int.toNat_natCast]; omega) S5.out.bel S5.out.bel.size ?_; intro von w7 hS7 hB7 hg7 hat7; rw [Int.toNat_natCast] at hS7; obtain ⟨gon, cap, hv7, _, _, _⟩ := Kd.S_form hS7 (by rw [List.length_replicate]; omega); rw [List.length_replicate] at hv7; subst hv7; have M7 : Aside0 (T.M3 w.heap.size (.slice (some ⟨gon, 0, none⟩) D cap) (.slice none 0 0) (.slice none 0 0) (List.replicate D []) [] [] w7) := ⟨⟨fun _ => True, fun _ => False, fun _ => False, fun _ _ h => h, fun _ _ h => h, fun _ h _ => h, hS7, Kd.R_nil _ _ _ _ _, Kd.R_nil _ _ _ _ _⟩⟩; have S7 := Aside0.mk (S5.out.grown hg7 (fun k hk => by cases hk)); clear hS7 hB7 hg7 hat7 hcb0 hcn8; have hcn8 := (blk_cell S7.out.num 8).trans (rfl : _ = some _); simp at hcn8; have hfn8 := blk_frozen S7.out.num 8; have hcb1 := (blk_cell S7.out.box 1).trans (rfl : _ = some _); simp at hcb1)
  have S8 : Aside0 (St w #[.int .i64 D, .slice (some ad) l.length c, .int .i64 a2, .int .i64 a3] #[.int .i64 D, .slice (some ad) l.length c, .int .i64 a2, .int .i64 a3, .int .i64 W, .int .i64 r, .int .i64 l.length, (.slice none 0 0), (.slice (some ⟨gon, 0, none⟩) D cap), .int .i64 Hm, .int .i64 Cp] b7 (w7.setCell ⟨b7, 8, none⟩ (.slice (some ⟨gon, 0, none⟩) D cap))) := ⟨S7.out.set 8 _⟩
  have M8 := Aside0.mk (M7.out.set S7.out.num (by decide) 8 (.slice (some ⟨gon, 0, none⟩) D cap))
  clear S7 M7 hcn8 hfn8 hcb1
  go_loopw [108] (fun i wr => ∃ g : Nat, g ≤ l.length ∧ i = .int .i64 g ∧ ∃ vrk : Value, Aside0 (St w #[.int .i64 D, .slice (some ad) l.length c, .int .i64 a2, .int .i64 a3] #[.int .i64 D, .slice (some ad) l.length c, .int .i64 a2, .int .i64 a3, .int .i64 W, .int .i64 r, .int .i64 l.length, vrk, (.slice (some ⟨gon, 0, none⟩) D cap), .int .i64 Hm, .int .i64 Cp] b7 wr) ∧ Aside0 (T.M3 w.heap.size (.slice (some ⟨gon, 0, none⟩) D cap) vrk (.slice none 0 0) (T.onAt l D g [] 0) (T.ranksUpto l g) [] wr)) (fun i _ => l.length - (intOf i).toNat)
  case atStart => exact ⟨0, Nat.zero_le _, rfl, _, S8, ⟨by rw [T.onAt_zero]; exact M8.out⟩⟩
  case round =>
    obtain ⟨g, hg, rfl, vrk, S9, M9⟩ := hrel
    by_cases hlt : g < l.length
    · obtain ⟨ad', A1, c1, e1, hx1, hl1, hi1⟩ := at_L1 HR.out (g : Int) (by omega) (by omega)
      cases e1
      replace hx1 := pw_cell_below S9.out.bel hx1
      rw [rd_L1_nat hlt] at hx1 hl1 hi1
      rw [Int.toNat_natCast] at hx1
      have HI1 := Aside0.mk hi1
      have hrow := HF.out.row g hlt
      clear hi1
      have M10 : Aside0 (T.M3 w.heap.size (.slice (some ⟨gon, 0, none⟩) D cap) vrk (.slice none 0 0) (T.onAt l D g l[g] 0) (T.ranksUpto l g) ((l[g].take 0).map fun d => ((T.onUpto l g d).length : Int)) wr) := ⟨by rw [T.onAt_start l D g l[g] []]; exact M9.out⟩
      clear S8 M8 M9
      go_wp2_with fail
      go_loopw [10, 115] (fun cu i wr => ∃ j : Nat, j ≤ l[g].length ∧ i = .int .i64 j ∧ Aside0 (∃ A n c, cu = .slice A n c) ∧ Aside0 (St w #[.int .i64 D, .slice (some ad) l.length c, .int .i64 a2, .int .i64 a3] #[.int .i64 D, .slice (some ad) l.length c, .int .i64 a2, .int .i64 a3, .int .i64 W, .int .i64 r, .int .i64 l.length, vrk, (.slice (some ⟨gon, 0, none⟩) D cap), .int .i64 Hm, .int .i64 Cp] b7 wr) ∧ Aside0 (T.M3 w.heap.size (.slice (some ⟨gon, 0, none⟩) D cap) vrk cu (T.onAt l D g l[g] j) (T.ranksUpto l g) ((l[g].take j).map fun d => ((T.onUpto l g d).length : Int)) wr)) (fun _ i _ => l[g].length - (intOf i).toNat)
      case atStart => exact ⟨0, Nat.zero_le _, rfl, ⟨_, _, _, rfl⟩, S9, M10⟩
      case round =>
        obtain ⟨j, hj, rfl, HCF, S11, M11⟩ := hrel
        by_cases hjlt : j < l[g].length
        · obtain ⟨ad2, e2, hx2⟩ := Kd.at_int HI1.out (j : Int) (by omega) (by omega)
          cases e2
          replace hx2 := pw_cell_below S11.out.bel hx2
          obtain ⟨d, hdD, hde⟩ := HF.out.el g hlt j hjlt
          rw [Int.toNat_natCast] at hdD
          rw [rd_nat hjlt, hde, Int.toNat_natCast] at hx2
          have hnot : ¬ ((d : Int) ∈ l[g].take j) := by rw [← hde]; exact not_mem_take HFB.out g hlt j hjlt
          refine inner_round (ad := ad) (c := c) _ _ _ _ _ _ _ _ _ _ _ _ _ _ _ _ _ _ _ _ _ _ _ _ _ _ _ _ _ _ _ _ _ _ _ _ _ _ _ _ _ _ _ _ _ _ _ _ _ _ _ _ _ _ _ _ _ _ _ _ _ _ _ _ _ _ _ _ _ _ _ _ _ _ _ _ _ _ _ _ _ _ _ _ _ _ _ _ _ _ _ _ _ _ _ _ _ _ _ _ _ _ _ _ _ _ _ _ _ _ _ _ _ _ _ _ _ _ _ _ _ _ _ _ _ _ _ _ _ _ _ _ _ _ _ _ _ _ _ _ _ _ _ _ _ _ _ _ _ hjlt hrow (by rfl) hdD hde hnot rfl (by omega) hx2 S11.out M11.out HCF.out ?_
          intro cu' u12 u116 u117 u118 u119 u120 u121 u122 u123 u124 u125 u126 u127 u128 u129 u130 u131 u132 u133 u134 u135 u136 u137 u138 u139 u140 w' hcf hs hm
          have HCF2 := Aside0.mk hcf
          have S12 := Aside0.mk hs
          have M12 := Aside0.mk hm
          clear hcf hs hm
          go_roundw
          case rel => exact ⟨cu', u12, _, u116, u117, u118, u119, u120, u121, u122, u123, u124, u125, u126, u127, u128, u129, u130, u131, u132, u133, u134, u135, u136, u137, u138, u139, u140, ⟨j + 1, by omega, rfl, HCF2, S12, M12⟩, rfl⟩
          case measure => simp [intOf]; omega
        · have hj2 : j = l[g].length := by omega
          have M12 : Aside0 (T.M3 w.heap.size (.slice (some ⟨gon, 0, none⟩) D cap) vrk u10 (T.onAt l D (g + 1) [] 0) (T.ranksUpto l g) (T.rankRow l g) wr) := ⟨by have h := M11.out; rw [hj2, T.onAt_next l D g hlt [], T.rankRow_all l g hlt] at h; exact h⟩
          clear M11 hj2
          obtain ⟨inner, hin, hrest⟩ := (M12.out.alloc (.cells #[u10] 56)).row
          rw [T.ranksUpto_len] at hin hrest
          have HIN := Aside0.mk hin
          have HREST := Aside0.mk (@hrest)
          obtain ⟨_, Ark, crk, hvrk, _, _⟩ := M12.out.reads
          rw [T.ranksUpto_len] at hvrk
          have HVRK := Aside0.mk hvrk
          obtain ⟨Acu, ncu, ccu, hcu⟩ := HCF.out
          clear hin hrest hvrk
          subst hcu
          have hcn7 := (blk_cell S11.out.num 7).trans (rfl : _ = some _)
          simp at hcn7
          obtain ⟨i56, hi56, hz0, hz1, hz2⟩ := info_parts info56
          have HI3 := Aside0.mk hi56
          have HZ0 := Aside0.mk hz0
          have HZ1 := Aside0.mk hz1
          have HZ2 := Aside0.mk hz2
          clear hi56 hz0 hz1 hz2
          go_wp2_with (at_builtin; go_loud (refine wpList_append_lies _ rfl _ _ _ rfl w.heap.size 56 i56 _ 1 24 Try.underlying24 HI3.out HZ0.out HZ1.out HZ2.out rfl (by omega) vrk g _ rfl HIN.out ⟨wr.heap.size, 0, none⟩ 1 1 [.slice Acu ncu ccu] rfl rfl (World.news_of_block (cs := #[.slice Acu ncu ccu]) (t := 56) (fr := (0, 0)) (heap_alloc_new wr _)) (by simp [Value.oneCell']) (by omega) (by unfold maxLen; omega) (by omega) (by rw [World.size_alloc]; exact Nat.le_succ_of_le S11.out.bel.size) (wr.heap.size + 1) (by rw [World.size_alloc]) ?_; intro gg cap1 w15 hown15 hgrow15 hat15 hlt15; have S15 := Aside0.mk ((S11.out.below (below_alloc (Below.refl _ _) _)).grown hgrow15 (own_block HIN.out (.inr rfl))); have M15 := Aside0.mk (HREST.out hgrow15 (hat15.elim (fun e => .inl (by rw [e]; rfl)) (fun e => .inr ⟨gg, rfl, by rw [World.size_alloc]; omega⟩)) hown15); clear hown15 hgrow15 hat15 hlt15 hcn7; have hcn7 := (blk_cell S15.out.num 7).trans (rfl : _ = some _); simp at hcn7; have hfn7 := blk_frozen S15.out.num 7))
          have S16 := Aside0.mk (S15.out.set 7 (.slice (some ⟨gg, 0, none⟩) (g + 1) cap1))
          have M16 := Aside0.mk (M15.out.set S15.out.num (by decide) 7 (.slice (some ⟨gg, 0, none⟩) (g + 1) cap1))
          rw [← T.ranksUpto_succ] at M16
          clear S15 M15 HIN HREST hcn7 hfn7
          go_roundw
          case rel => exact ⟨g + 1, by omega, by go_num, _, S16, M16⟩
          case measure => simp [intOf]; omega
    · have hg2 : g = l.length := by omega
      have M10 : Aside0 (T.M3 w.heap.size (.slice (some ⟨gon, 0, none⟩) D cap) vrk (.slice none 0 0) (T.onAll l D) (T.ranksUpto l l.length) [] wr) := ⟨by have h := M9.out; rw [hg2, T.onAt_all] at h; exact h⟩
      clear S8 M8 M9 hg2
      obtain ⟨_, Ark, crk, hvrk, _, _⟩ := M10.out.reads
      rw [T.ranksUpto_len] at hvrk
      subst hvrk
      have hcx0 := (blk_cell S9.out.num 0).trans (rfl : _ = some _)
      have hcx1 := (blk_cell S9.out.num 1).trans (rfl : _ = some _)
      have hcx2 := (blk_cell S9.out.num 2).trans (rfl : _ = some _)
      have hcx3 := (blk_cell S9.out.num 3).trans (rfl : _ = some _)
      have hcx4 := (blk_cell S9.out.num 4).trans (rfl : _ = some _)
      have hcx5 := (blk_cell S9.out.num 5).trans (rfl : _ = some _)
      have hcx6 := (blk_cell S9.out.num 6).trans (rfl : _ = some _)
      have hcx7 := (blk_cell S9.out.num 7).trans (rfl : _ = some _)
      have hcx8 := (blk_cell S9.out.num 8).trans (rfl : _ = some _)
      have hcx9 := (blk_cell S9.out.num 9).trans (rfl : _ = some _)
      have hcx10 := (blk_cell S9.out.num 10).trans (rfl : _ = some _)
      simp at hcx0 hcx1 hcx2 hcx3 hcx4 hcx5 hcx6 hcx7 hcx8 hcx9 hcx10
      have hcz0 := (blk_cell S9.out.res 0).trans (rfl : _ = some _)
      have hfz0 := blk_frozen S9.out.res 0
      have hcz1 := (blk_cell S9.out.res 1).trans (rfl : _ = some _)
      have hfz1 := blk_frozen S9.out.res 1
      have hcz2 := (blk_cell S9.out.res 2).trans (rfl : _ = some _)
      have hfz2 := blk_frozen S9.out.res 2
      have hcz3 := (blk_cell S9.out.res 3).trans (rfl : _ = some _)
      have hfz3 := blk_frozen S9.out.res 3
      have hcz4 := (blk_cell S9.out.res 4).trans (rfl : _ = some _)
      have hfz4 := blk_frozen S9.out.res 4
      have hcz5 := (blk_cell S9.out.res 5).trans (rfl : _ = some _)
      have hfz5 := blk_frozen S9.out.res 5
      have hcz6 := (blk_cell S9.out.res 6).trans (rfl : _ = some _)
      have hfz6 := blk_frozen S9.out.res 6
      have hcz7 := (blk_cell S9.out.res 7).trans (rfl : _ = some _)
      have hfz7 := blk_frozen S9.out.res 7
      have hcz8 := (blk_cell S9.out.res 8).trans (rfl : _ = some _)
      have hfz8 := blk_frozen S9.out.res 8
      have hcz9 := (blk_cell S9.out.res 9).trans (rfl : _ = some _)
      have hfz9 := blk_frozen S9.out.res 9
      have hcz10 := (blk_cell S9.out.res 10).trans (rfl : _ = some _)
      have hfz10 := blk_frozen S9.out.res 10
      go_wp2
      exact bodyPost_ret (results_list (rs := [.cell 2 67, .tmp 3]) rfl (by simp) (.cell (w.heap.size + 1) 67 _ (0, 0) _ rfl (set11 S9.out.res _ _ _ _ _ _ _ _ _ _ _) Try.underlying67 rfl (by kernel_rfl) (.tmp .nil))) rfl (meas_fin HK.out HW.out (r_of H.out HFB.out) HHm.out HCp.out (M3_res M10.out S9.out.res _ _ _ _ _ _ _ _ _ _ _) (Kd.C_below HR.out (below11 S9.out.bel (by omega) _ _ _ _ _ _ _ _ _ _ _)) HC.out (below11 S9.out.bel (by omega) _ _ _ _ _ _ _ _ _ _ _))
theorem NumsAt.below {x : Nums} {w w' : World} {v : Value} (h : NumsAt x w v) (hb : Below w.heap.size w w') : NumsAt x w' v := by
  obtain ⟨A1, c1, A7, c7, A8, c8, e, h1, h2, h3, h4, h5, h6⟩ := h
  exact ⟨A1, c1, A7, c7, A8, c8, e, Kd.C_below h1 hb, h2, Kd.C_below h3 hb, h4, Kd.C_below h5 hb, h6⟩
/-- What measure answers. -/
def measure (a0 : Int) (l : List (List Int)) (a2 a3 : Int) : Nums × Bool := if (checkD a0 l).2.2 = 0 then measD a0.toNat l a2 a3 else (noNums, false)
theorem measure_calls (a0 : Int) (A : Option Addr) (c : Nat) (l : List (List Int)) (a2 a3 : Int) (w : World) (hr : Kd.C (Kd.slice 3 (Kd.int .i64)) w A l.length l) (hc : l.length ≤ c) :
    Calls Try.prog 39 #[.agg #[.int .i64 a0, .slice A l.length c, .int .i64 a2, .int .i64 a3]] w fun e w' => ∃ v, e = .returned (.tuple #[v, .bool (measure a0 l a2 a3).2]) ∧ NumsAt (measure a0 l a2 a3).1 w' v ∧ Below w.heap.size w w' := by
  obtain ⟨r, lam, z, h⟩ : ∃ r lam z, checkD a0 l = (r, lam, z) := ⟨_, _, _, rfl⟩
  unfold measure
  rw [h]
  by_cases hz : z = 0
  · rw [if_pos hz]
    subst hz
    have hf : formedB a0 l = true := by
      cases hb : formedB a0 l with
      | true => rfl
      | false =>
        unfold checkD at h
        rw [hb, if_neg (by decide)] at h
        injection h with _ h
        injection h with _ h
        cases h
    obtain ⟨e, _⟩ := fm_of hf
    have h2 := meas_ok a0.toNat A c l a2 a3 w hr hc r lam (by rw [← e]; exact h) (by rw [← e]; exact hf)
    rw [← e] at h2
    exact h2
  · rw [if_neg hz]
    refine (meas_bad a0 A c l a2 a3 w hr hc r lam z h hz).mono ?_
    rintro e w' ⟨rfl, hb⟩
    exact ⟨_, rfl, noNums_at _, hb⟩
end Go.Proofs.Ytebnladkogkpfaa.Q
