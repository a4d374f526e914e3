import Derived.Test.YtebnladkogkpfaaQ31
import Derived.Test.YtebnladkogkpfaaQ29
import Derived.Test.YtebnladkogkpfaaPA
import Derived.Lib.SmallJoins
import Derived.Carry
/-! Layouts of whatever form: ref Valid is what measure tells, few, and a layout handed in as an argument. -/
namespace Go.Proofs.Ytebnladkogkpfaa.Pure
open Go.RowKit Go.Proofs.Ytebnladkogkpfaa.Q Go.Proofs.YtebnladkogkpfaaW.PrintWords Go.Proofs.YtebnladkogkpfaaW.PrintLast
open Go.Proofs.Ytebnladkogkpfaa.T (prs)
set_option linter.unusedVariables false
set_option linter.unusedSimpArgs false

theorem prs_le (D : Int) {l : List (List Int)} (h : Q.Rows D l) : prs l 0 0 ≤ 4096 := by
  rw [on_all h]
  exact Nat.le_trans (T.onUpto_len _ _ _) h.n.2
theorem valid_nums {t s : Int} {n r W : Nat} (hn : n ≤ 4096) (hr : r ≤ 4096) (h : 1 ≤ t ∧ t ≤ 256 ∧ 0 ≤ s ∧ s ≤ 65536 ∧ 4 ≤ W ∧ W ≤ 16) :
    (if wrap64 (t * (n : Int)) ≤ 4096 then (if wrap64 (wrap64 (t * (n : Int)) * wrap64 ((W : Int) - 3)) ≤ 65536 then some (decide (wrap64 (wrap64 (t * (r : Int)) + s) ≤ 65536)) else some false) else some false) = some (decide (Q.measOk (W : Int) (r : Int) (n : Int) t s)) := by
  have m1 := mul_bd (a := t) (b := (n : Int)) (A := 256) (B := 4096) (by omega) (by omega) (by omega) (by omega)
  have m3 := mul_bd (a := t) (b := (r : Int)) (A := 256) (B := 4096) (by omega) (by omega) (by omega) (by omega)
  have m2 := mul_bd (a := t * (n : Int)) (b := (W : Int) - 3) (A := 1048576) (B := 16) (by omega) (by omega) (by omega) (by omega)
  rw [Q.wrap_small (i := t * (n : Int)) (by omega) (by omega), Q.wrap_small (i := (W : Int) - 3) (by omega) (by omega), Q.wrap_small (i := t * (n : Int) * ((W : Int) - 3)) (by omega) (by omega), Q.wrap_small (i := t * (r : Int)) (by omega) (by omega), Q.wrap_small (i := t * (r : Int) + s) (by omega) (by omega)]
  have hm : Q.measOk (W : Int) (r : Int) (n : Int) t s ↔ (4 ≤ (W : Int) ∧ (W : Int) ≤ 16 ∧ 1 ≤ t ∧ t ≤ 256 ∧ 0 ≤ s ∧ s ≤ 65536) ∧ t * (n : Int) ≤ 4096 ∧ t * (n : Int) * ((W : Int) - 3) ≤ 65536 ∧ t * (r : Int) + s ≤ 65536 := Iff.rfl
  by_cases c1 : t * (n : Int) ≤ 4096
  · rw [if_pos c1]
    by_cases c2 : t * (n : Int) * ((W : Int) - 3) ≤ 65536
    · rw [if_pos c2]
      congr 1
      rw [decide_eq_decide, hm]
      constructor
      · intro c3; exact ⟨⟨by omega, by omega, by omega, by omega, by omega, by omega⟩, c1, c2, c3⟩
      · intro c3; exact c3.2.2.2
    · rw [if_neg c2, decide_eq_false (fun c3 => c2 (hm.1 c3).2.2.1)]
  · rw [if_neg c1, decide_eq_false (fun c3 => c1 (hm.1 c3).2.1)]
theorem measD_2 (D : Nat) (l : List (List Int)) (t s : Int) : (Q.measD D l t s).2 = decide (Q.measOk (headLen l : Int) (prs l 0 0 : Int) (l.length : Int) t s) := by
  unfold Q.measD
  split
  · rename_i h; exact (decide_eq_true h).symm
  · rename_i h; exact (decide_eq_false h).symm
/-- The document's Valid is what measure tells. -/
theorem valid_is (D : Int) (l : List (List Int)) (t s : Int) : tegularef21_Valid.f D l t s = some (Q.measure D l t s).2 := by
  unfold tegularef21_Valid.f tegularef07_Check.f Q.measure checkD
  by_cases hf : formedB D l = true
  · rw [if_pos hf]
    unfold checkR T.chk
    by_cases hb : T.Bal D.toNat l ∧ 1 ≤ prs l 0 1
    · have hR := rows_of hf
      have hr := prs_le D hR
      rw [if_pos hb, if_pos ⟨hf, hb.1⟩, decide_eq_true (show 0 < (prs l 0 1 : Int) by omega)]
      simp only [Option.bind_some, if_true]
      rw [measD_2]
      have hh : (rd_L1 l 0).length = headLen l := rfl
      have hn := hR.n
      rw [hh]
      by_cases h : 1 ≤ t ∧ t ≤ 256 ∧ 0 ≤ s ∧ s ≤ 65536 ∧ 4 ≤ headLen l ∧ headLen l ≤ 16
      · rw [if_neg (by omega), if_neg (by omega), if_neg (by omega), if_neg (by omega), if_pos (by omega), if_pos (by omega), if_pos (by omega)]
        exact valid_nums hn.2 hr h
      · have hm : ¬ Q.measOk (headLen l : Int) (prs l 0 0 : Int) (l.length : Int) t s := fun hm => h (by
          obtain ⟨⟨k1, k2, k3, k4, k5, k6⟩, _⟩ := hm
          omega)
        rw [decide_eq_false hm]
        by_cases g1 : t < 1
        · rw [if_pos g1]
        rw [if_neg g1]
        by_cases g2 : t > 256
        · rw [if_pos g2]
        rw [if_neg g2]
        by_cases g3 : s < 0
        · rw [if_pos g3]
        rw [if_neg g3]
        by_cases g4 : s > 65536
        · rw [if_pos g4]
        rw [if_neg g4, if_pos (by omega)]
        by_cases g5 : ((headLen l : Nat) : Int) ≥ 4
        · rw [if_pos g5, if_neg (by omega)]
        · rw [if_neg g5]
    · rw [if_neg hb, if_neg (show ¬ (((0 : Int), (0 : Int), (5 : Int)).2.2 = 0) by decide)]
      by_cases hB : T.Bal D.toNat l
      · have : ¬ 1 ≤ prs l 0 1 := fun h => hb ⟨hB, h⟩
        rw [if_pos ⟨hf, hB⟩, decide_eq_false (by omega)]
        rfl
      · rw [if_neg (fun h => hB h.2)]
        rfl
  · rw [if_neg hf, checkR_no (by simpa using hf), if_neg (show ¬ (((0 : Int), (0 : Int), (5 : Int)).2.2 = 0) by decide)]
    rfl
theorem few_loop (D : Int) (l : List (List Int)) (t s : Int) (hl : l.length ≤ 60) : ∀ n i, l.length - i = n → i ≤ l.length → Ev (fun k => tegulalaw21_few.l0 k (i : Int) D l t s) ((l.drop i).all fun g => decide (g.length ≤ 20)) := by
  intro n
  induction n with
  | zero =>
    intro i e hi
    rw [List.drop_eq_nil_of_le (by omega)]
    refine Ev.step (f := fun _ => some true) (fun k => ?_) (Ev.now _)
    simp only [tegulalaw21_few.l0]
    rw [if_neg (by omega)]
  | succ n ih =>
    intro i e hi
    have hlt : i < l.length := by omega
    rw [List.drop_eq_getElem_cons hlt, List.all_cons]
    by_cases c : l[i].length ≤ 20
    · rw [decide_eq_true c, Bool.true_and]
      refine Ev.step (f := fun k => tegulalaw21_few.l0 k ((i + 1 : Nat) : Int) D l t s) (fun k => ?_) (ih (i + 1) (by omega) (by omega))
      simp only [tegulalaw21_few.l0]
      rw [if_pos (by omega), if_pos (by omega), rd_L1_nat hlt, if_neg (by omega), Q.wrap_small (by omega) (by omega)]
      rfl
    · rw [decide_eq_false c, Bool.false_and]
      refine Ev.step (f := fun _ => some false) (fun k => ?_) (Ev.now _)
      simp only [tegulalaw21_few.l0]
      rw [if_pos (by omega), if_pos (by omega), rd_L1_nat hlt, if_pos (by omega)]
theorem few_ev (D : Int) (l : List (List Int)) (t s : Int) : ∃ b, Ev (fun k => tegulalaw21_few.f k D l t s) b ∧ (b = true → l.length ≤ 60) := by
  by_cases c : l.length ≤ 60
  · refine ⟨_, Ev.congr (f := fun k => tegulalaw21_few.l0 k ((0 : Nat) : Int) D l t s) (fun k => ?_) (few_loop D l t s c l.length 0 rfl (by omega)), fun _ => c⟩
    unfold tegulalaw21_few.f
    rw [if_neg (by omega)]
    rfl
  · refine ⟨false, Ev.congr (f := fun _ => some false) (fun k => ?_) (Ev.now _), fun h => by cases h⟩
    unfold tegulalaw21_few.f
    rw [if_pos (by omega)]

end Go.Proofs.Ytebnladkogkpfaa.Pure

/-! A layout as an argument. -/
namespace Go.Proofs.Ytebnladkogkpfaa.Lay
open Go.ChangeShapes Go.WideShapes Go.ChangeAt Go.RowKit Go.Deep Go.Joins Go.Proofs.YtebnladkogkpfaaW.PrintWords
section
variable {H : Type} {enc : TypeId × Value → H} {P : Program} {w : World} {base : Nat} {sp : Nat → Bool} {held : Bool} {k : IntKind}
theorem row_int {A : Option Addr} {n : Nat} {zs : List Int} (hl : n ≤ zs.length) (hm : zs.length ≤ maxLen) (h : 0 < n → ∃ x, A = some x ∧ ∀ j, j < zs.length → w.cell? (x.add j) = some (.int k (zs.getD j 0))) : (Kd.int k).C w A (zs.take n).length (zs.take n) := by
  have hle : (zs.take n).length = n := by rw [List.length_take, Nat.min_eq_left hl]
  refine ⟨rfl, by rw [hle]; exact Nat.le_trans hl hm, fun h0 => ?_⟩
  rw [hle] at h0
  obtain ⟨x, e, hx⟩ := h h0
  refine ⟨x, e, fun j p hp => ⟨[.int k p], rfl, rfl, fun i u hu => ?_⟩⟩
  have hj : j < n := by
    have := (List.getElem?_eq_some_iff.1 hp).1
    omega
  have e1 : i = 0 ∧ u = .int k p := by
    cases i with
    | zero => simp at hu; exact ⟨rfl, hu.symm⟩
    | succ i => simp at hu
  obtain ⟨rfl, rfl⟩ := e1
  have h2 := hx j (by omega)
  have h3 : zs.getD j 0 = p := by
    rw [List.getElem?_take_of_lt hj] at hp
    rw [List.getD_eq_getElem?_getD, hp]
    rfl
  rw [h3] at h2
  show w.cell? (x.add (j * 1 + 0)) = _
  rw [Nat.mul_one, Nat.add_zero]
  exact h2
theorem open_inner {e i : TypeId} {n : Nat} {v : Value} {y : DataW H × List MemPlace} (he : P.underlying e = some (.slice i)) (hi : P.underlying i = some (.int k)) (hci : P.cellsOf i = 1) (h : DataW.trod enc P w base sp held n e [v] = some y) : ∃ l : List Int, (Kd.slice i (Kd.int k)).K w l [v] := by
  rcases open_ints he hi hci h with ⟨hcs, _⟩ | ⟨x, l, c, zs, hcs, _, hl, hm, hz, _, hcell, _⟩
  · simp only [List.cons.injEq, and_true] at hcs
    subst hcs
    exact ⟨[], none, 0, rfl, Nat.le_refl _, rfl, Nat.zero_le _, fun h => absurd h (Nat.lt_irrefl _)⟩
  · simp only [List.cons.injEq, and_true] at hcs
    subst hcs
    have hlz : l ≤ zs.length := by rw [hz]; split <;> omega
    have hle : (zs.take l).length = l := by rw [List.length_take, Nat.min_eq_left hlz]
    have hzm : zs.length ≤ maxLen := by rw [hz]; split <;> omega
    refine ⟨zs.take l, some x, c, by rw [hle], by rw [hle]; exact hl, row_int hlz hzm (fun _ => ⟨x, rfl, hcell⟩)⟩
theorem open_rows {t e i : TypeId} {n : Nat} {v : Value} {y : DataW H × List MemPlace} (ht : P.underlying t = some (.slice e)) (he : P.underlying e = some (.slice i)) (hi : P.underlying i = some (.int k)) (hce : P.cellsOf e = 1) (hci : P.cellsOf i = 1) (h : DataW.trod enc P w base sp held n t [v] = some y) :
    ∃ A c, ∃ l : List (List Int), v = .slice A l.length c ∧ l.length ≤ c ∧ (Kd.slice i (Kd.int k)).C w A l.length l := by
  rcases open_slice1 ht hce h with ⟨hcs, _⟩ | ⟨a, len, cap, m, n', V, D, Pl, hcs, _, hl, hm, hmm, _, hx⟩
  · simp only [List.cons.injEq, and_true] at hcs
    subst hcs
    exact ⟨none, 0, [], rfl, Nat.le_refl _, rfl, Nat.zero_le _, fun h => absurd h (Nat.lt_irrefl _)⟩
  · simp only [List.cons.injEq, and_true] at hcs
    subst hcs
    have hlm : len ≤ m := by rw [hmm]; split <;> omega
    obtain ⟨L, hL⟩ := choose_lt (α := List Int) (p := fun j l => (Kd.slice i (Kd.int k)).K w l [V j]) (n := len) (fun j hj => open_inner he hi hci (hx j (by omega)).2)
    have hlen : ((List.range len).map L).length = len := by simp
    refine ⟨some a, cap, (List.range len).map L, by rw [hlen], by rw [hlen]; exact hl, rfl, by rw [hlen]; exact Nat.le_trans hl hm, fun _ => ⟨a, rfl, fun j p hp => ?_⟩⟩
    have hj : j < len := by
      have := (List.getElem?_eq_some_iff.1 hp).1
      rwa [hlen] at this
    rw [List.getElem?_map, List.getElem?_range hj] at hp
    simp only [Option.map_some, Option.some.injEq] at hp
    subst hp
    refine ⟨[V j], rfl, hL j hj, fun q u hu => ?_⟩
    have e1 : q = 0 ∧ u = V j := by
      cases q with
      | zero => simp at hu; exact ⟨rfl, hu.symm⟩
      | succ q => simp at hu
    obtain ⟨rfl, rfl⟩ := e1
    show w.cell? (a.add (j * 1 + 0)) = _
    rw [Nat.mul_one, Nat.add_zero]
    exact (hx j (by omega)).1
end
theorem c28 : Try.prog.cellsOf 28 = 4 := by kernel_rfl
theorem c27 : Try.prog.cellsOf 27 = 4 := by kernel_rfl
theorem c26 : Try.prog.cellsOf 26 = 2 := by kernel_rfl
theorem c24 : Try.prog.cellsOf 24 = 1 := by kernel_rfl
theorem c56 : Try.prog.cellsOf 56 = 1 := by kernel_rfl
theorem c3 : Try.prog.cellsOf 3 = 1 := by kernel_rfl
theorem open_layout {H : Type} {enc : TypeId × Value → H} {w : World} {base b0 : Nat} {sp : Nat → Bool} {held : Bool} {r : Reach} {v : Value} {d : DataW H} {p : List MemPlace} (hv : Value.okWide Try.prog w r b0 28 v) (h : DataW.Trod enc Try.prog w base sp held 28 v d p) :
    ∃ a0 A c, ∃ l : List (List Int), ∃ a2 a3, v = .agg #[.int .i64 a0, .slice A l.length c, .int .i64 a2, .int .i64 a3] ∧ l.length ≤ c ∧ (Kd.slice 3 (Kd.int .i64)).C w A l.length l := by
  obtain ⟨cs, rfl, hsz⟩ := okWide_struct Try.underlying28 hv
  obtain ⟨u0, u1, u2, u3, rfl⟩ := array4 (hsz.trans c28)
  obtain ⟨fuel, hf⟩ := h
  obtain ⟨y0, y1, y2, n, _, _, h0, h1, h2⟩ := trod_struct3 Try.underlying28 hf
  simp only [Value.cells, c26, c3, List.drop, List.take] at h0 h1 h2
  obtain ⟨z0, z1, n', _, _, g0, g1⟩ := trod_struct2 Try.underlying26 h0
  simp only [c24, c3, List.drop, List.take] at g0 g1
  obtain ⟨a0, e0, _, _⟩ := DataW.trod_int Try.underlying3 g0
  obtain ⟨a2, e2, _, _⟩ := DataW.trod_int Try.underlying3 h1
  obtain ⟨a3, e3, _, _⟩ := DataW.trod_int Try.underlying3 h2
  simp only [List.cons.injEq, and_true] at e0 e2 e3
  subst e0 e2 e3
  obtain ⟨A, c, l, rfl, k1, k2⟩ := open_rows Try.underlying24 Try.underlying56 Try.underlying3 c56 c3 g1
  exact ⟨a0, A, c, l, a2, a3, rfl, k1, k2⟩
end Go.Proofs.Ytebnladkogkpfaa.Lay
