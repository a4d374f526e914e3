import Derived.Test.YtebnladkogkpfaaG34
import Derived.Test.YtebnladkogkpfaaTabM
import Derived.Test.YtebnladkogkpfaaMemM
import Derived.Test.YtebnladkogkpfaaQ4
/-! The walk of layout.measure. -/
namespace Go.Proofs.Ytebnladkogkpfaa.Q
open Go.RowKit Go.Proofs.YtebnladkogkpfaaW.PrintWords Go.Proofs.YtebnladkogkpfaaW.PrintLast Go.Proofs.YtebnladkogkpfaaW.PrintMore
open T (tabOf prs)
set_option linter.unusedVariables false
set_option linter.unusedSimpArgs false

/-- The numbers of a layout. -/
structure Nums where
  d : Int
  l : List (List Int)
  tiles : Int
  spare : Int
  width : Int
  r : Int
  n : Int
  ranks : List (List Int)
  on : List (List Int)
  homes : Int
  cap : Int
def noNums : Nums := ⟨0, [], 0, 0, 0, 0, 0, [], [], 0, 0⟩
/-- The value of the numbers, its rows in memory. -/
def NumsAt (x : Nums) (w : World) (v : Value) : Prop := ∃ A1 c1 A7 c7 A8 c8, v = .agg #[.int .i64 x.d, .slice A1 x.l.length c1, .int .i64 x.tiles, .int .i64 x.spare, .int .i64 x.width, .int .i64 x.r, .int .i64 x.n, .slice A7 x.ranks.length c7, .slice A8 x.on.length c8, .int .i64 x.homes, .int .i64 x.cap] ∧
  Kd.C (Kd.slice 3 (Kd.int .i64)) w A1 x.l.length x.l ∧ x.l.length ≤ c1 ∧ Kd.C (Kd.slice 3 (Kd.int .i64)) w A7 x.ranks.length x.ranks ∧ x.ranks.length ≤ c7 ∧ Kd.C (Kd.slice 3 (Kd.int .i64)) w A8 x.on.length x.on ∧ x.on.length ≤ c8
def noCells : Array Value := #[.int .i64 0, .slice none 0 0, .int .i64 0, .int .i64 0, .int .i64 0, .int .i64 0, .int .i64 0, .slice none 0 0, .slice none 0 0, .int .i64 0, .int .i64 0]
theorem noNums_at (w : World) : NumsAt noNums w (.agg noCells) := ⟨none, 0, none, 0, none, 0, rfl, Kd.C_nil _ _, Nat.le_refl _, Kd.C_nil _ _, Nat.le_refl _, Kd.C_nil _ _, Nat.le_refl _⟩

/-- Eleven cells of a block, stored one by one. -/
theorem set11 {w : World} {g t : Nat} {c0 c1 c2 c3 c4 c5 c6 c7 c8 c9 c10 : Value} (h : w.heap[g]? = some (.cells #[c0, c1, c2, c3, c4, c5, c6, c7, c8, c9, c10] t (0, 0))) (v0 v1 v2 v3 v4 v5 v6 v7 v8 v9 v10 : Value) : (((((((((((w.setCell ⟨g, 0, none⟩ v0).setCell ⟨g, 1, none⟩ v1).setCell ⟨g, 2, none⟩ v2).setCell ⟨g, 3, none⟩ v3).setCell ⟨g, 4, none⟩ v4).setCell ⟨g, 5, none⟩ v5).setCell ⟨g, 6, none⟩ v6).setCell ⟨g, 7, none⟩ v7).setCell ⟨g, 8, none⟩ v8).setCell ⟨g, 9, none⟩ v9).setCell ⟨g, 10, none⟩ v10).heap[g]? = some (.cells #[v0, v1, v2, v3, v4, v5, v6, v7, v8, v9, v10] t (0, 0)) := by
  replace h := blk_set h 0 v0
  rw [show Array.setIfInBounds #[c0, c1, c2, c3, c4, c5, c6, c7, c8, c9, c10] 0 v0 = #[v0, c1, c2, c3, c4, c5, c6, c7, c8, c9, c10] from rfl] at h
  replace h := blk_set h 1 v1
  rw [show Array.setIfInBounds #[v0, c1, c2, c3, c4, c5, c6, c7, c8, c9, c10] 1 v1 = #[v0, v1, c2, c3, c4, c5, c6, c7, c8, c9, c10] from rfl] at h
  replace h := blk_set h 2 v2
  rw [show Array.setIfInBounds #[v0, v1, c2, c3, c4, c5, c6, c7, c8, c9, c10] 2 v2 = #[v0, v1, v2, c3, c4, c5, c6, c7, c8, c9, c10] from rfl] at h
  replace h := blk_set h 3 v3
  rw [show Array.setIfInBounds #[v0, v1, v2, c3, c4, c5, c6, c7, c8, c9, c10] 3 v3 = #[v0, v1, v2, v3, c4, c5, c6, c7, c8, c9, c10] from rfl] at h
  replace h := blk_set h 4 v4
  rw [show Array.setIfInBounds #[v0, v1, v2, v3, c4, c5, c6, c7, c8, c9, c10] 4 v4 = #[v0, v1, v2, v3, v4, c5, c6, c7, c8, c9, c10] from rfl] at h
  replace h := blk_set h 5 v5
  rw [show Array.setIfInBounds #[v0, v1, v2, v3, v4, c5, c6, c7, c8, c9, c10] 5 v5 = #[v0, v1, v2, v3, v4, v5, c6, c7, c8, c9, c10] from rfl] at h
  replace h := blk_set h 6 v6
  rw [show Array.setIfInBounds #[v0, v1, v2, v3, v4, v5, c6, c7, c8, c9, c10] 6 v6 = #[v0, v1, v2, v3, v4, v5, v6, c7, c8, c9, c10] from rfl] at h
  replace h := blk_set h 7 v7
  rw [show Array.setIfInBounds #[v0, v1, v2, v3, v4, v5, v6, c7, c8, c9, c10] 7 v7 = #[v0, v1, v2, v3, v4, v5, v6, v7, c8, c9, c10] from rfl] at h
  replace h := blk_set h 8 v8
  rw [show Array.setIfInBounds #[v0, v1, v2, v3, v4, v5, v6, v7, c8, c9, c10] 8 v8 = #[v0, v1, v2, v3, v4, v5, v6, v7, v8, c9, c10] from rfl] at h
  replace h := blk_set h 9 v9
  rw [show Array.setIfInBounds #[v0, v1, v2, v3, v4, v5, v6, v7, v8, c9, c10] 9 v9 = #[v0, v1, v2, v3, v4, v5, v6, v7, v8, v9, c10] from rfl] at h
  replace h := blk_set h 10 v10
  rw [show Array.setIfInBounds #[v0, v1, v2, v3, v4, v5, v6, v7, v8, v9, c10] 10 v10 = #[v0, v1, v2, v3, v4, v5, v6, v7, v8, v9, v10] from rfl] at h
  exact h
theorem below11 {w0 w : World} {g : Nat} (h : Below w0.heap.size w0 w) (hg : w0.heap.size ≤ g) (v0 v1 v2 v3 v4 v5 v6 v7 v8 v9 v10 : Value) : Below w0.heap.size w0 (((((((((((w.setCell ⟨g, 0, none⟩ v0).setCell ⟨g, 1, none⟩ v1).setCell ⟨g, 2, none⟩ v2).setCell ⟨g, 3, none⟩ v3).setCell ⟨g, 4, none⟩ v4).setCell ⟨g, 5, none⟩ v5).setCell ⟨g, 6, none⟩ v6).setCell ⟨g, 7, none⟩ v7).setCell ⟨g, 8, none⟩ v8).setCell ⟨g, 9, none⟩ v9).setCell ⟨g, 10, none⟩ v10) := (below_set (below_set (below_set (below_set (below_set (below_set (below_set (below_set (below_set (below_set (below_set h hg) hg) hg) hg) hg) hg) hg) hg) hg) hg) hg)
theorem far11 {w : World} {g b t : Nat} {cs : Array Value} (h : w.heap[b]? = some (.cells cs t (0, 0))) (hb : b ≠ g) (v0 v1 v2 v3 v4 v5 v6 v7 v8 v9 v10 : Value) : (((((((((((w.setCell ⟨g, 0, none⟩ v0).setCell ⟨g, 1, none⟩ v1).setCell ⟨g, 2, none⟩ v2).setCell ⟨g, 3, none⟩ v3).setCell ⟨g, 4, none⟩ v4).setCell ⟨g, 5, none⟩ v5).setCell ⟨g, 6, none⟩ v6).setCell ⟨g, 7, none⟩ v7).setCell ⟨g, 8, none⟩ v8).setCell ⟨g, 9, none⟩ v9).setCell ⟨g, 10, none⟩ v10).heap[b]? = some (.cells cs t (0, 0)) := (blk_far (blk_far (blk_far (blk_far (blk_far (blk_far (blk_far (blk_far (blk_far (blk_far (blk_far h (p := ⟨g, 0, none⟩) hb v0) (p := ⟨g, 1, none⟩) hb v1) (p := ⟨g, 2, none⟩) hb v2) (p := ⟨g, 3, none⟩) hb v3) (p := ⟨g, 4, none⟩) hb v4) (p := ⟨g, 5, none⟩) hb v5) (p := ⟨g, 6, none⟩) hb v6) (p := ⟨g, 7, none⟩) hb v7) (p := ⟨g, 8, none⟩) hb v8) (p := ⟨g, 9, none⟩) hb v9) (p := ⟨g, 10, none⟩) hb v10)

theorem heap11 {w : World} {g k : Nat} (hb : k ≠ g) (v0 v1 v2 v3 v4 v5 v6 v7 v8 v9 v10 : Value) : (((((((((((w.setCell ⟨g, 0, none⟩ v0).setCell ⟨g, 1, none⟩ v1).setCell ⟨g, 2, none⟩ v2).setCell ⟨g, 3, none⟩ v3).setCell ⟨g, 4, none⟩ v4).setCell ⟨g, 5, none⟩ v5).setCell ⟨g, 6, none⟩ v6).setCell ⟨g, 7, none⟩ v7).setCell ⟨g, 8, none⟩ v8).setCell ⟨g, 9, none⟩ v9).setCell ⟨g, 10, none⟩ v10).heap[k]? = w.heap[k]? := by
  rw [Below.heap_setCell _ _ _ _ (show k ≠ (⟨g, 10, none⟩ : Addr).block from hb), Below.heap_setCell _ _ _ _ (show k ≠ (⟨g, 9, none⟩ : Addr).block from hb), Below.heap_setCell _ _ _ _ (show k ≠ (⟨g, 8, none⟩ : Addr).block from hb), Below.heap_setCell _ _ _ _ (show k ≠ (⟨g, 7, none⟩ : Addr).block from hb), Below.heap_setCell _ _ _ _ (show k ≠ (⟨g, 6, none⟩ : Addr).block from hb), Below.heap_setCell _ _ _ _ (show k ≠ (⟨g, 5, none⟩ : Addr).block from hb), Below.heap_setCell _ _ _ _ (show k ≠ (⟨g, 4, none⟩ : Addr).block from hb), Below.heap_setCell _ _ _ _ (show k ≠ (⟨g, 3, none⟩ : Addr).block from hb), Below.heap_setCell _ _ _ _ (show k ≠ (⟨g, 2, none⟩ : Addr).block from hb), Below.heap_setCell _ _ _ _ (show k ≠ (⟨g, 1, none⟩ : Addr).block from hb), Below.heap_setCell _ _ _ _ (show k ≠ (⟨g, 0, none⟩ : Addr).block from hb)]
theorem mul_bd {a b A B : Int} (ha : 0 ≤ a) (hA : a ≤ A) (hb : 0 ≤ b) (hB : b ≤ B) : 0 ≤ a * b ∧ a * b ≤ A * B :=
  ⟨Int.mul_nonneg ha hb, Int.le_trans (Int.mul_le_mul_of_nonneg_right hA hb) (Int.mul_le_mul_of_nonneg_left hB (Int.le_trans ha hA))⟩
/-- A world in which all that was is as it was. -/
structure BW (w : World) where
  w' : World
  h : Below w.heap.size w w'
instance (w : World) : Nonempty (BW w) := ⟨⟨w, Below.refl _ _⟩⟩
/-- A region in open order whose operations read, and whose calls leave all that was as it was: one walk, in the order of the text. -/
theorem region_quiet_bw {P : Program} {id : Nat} {Q : Exit → Act → World → Prop} {a : Act} {w : World} {l : List Oper} (hm : P.follows .mixedOrders = true) (hB : Region.lexB .any l.toArray = true)
    (h : wpQuiet P l.toArray (fun w' => ∃ X : BW w, w' = X.w') (fun a' => ∀ w', (∃ X : BW w, w' = X.w') → Q .normal a' w') l a) : (Code.region id l.toArray true).wp P Q a w :=
  wp_region_quiet (C := fun w' => ∃ X : BW w, w' = X.w') hm hB ⟨⟨w.drew, below_drew (Below.refl _ _)⟩, rfl⟩ (by simpa using h)
/-- The bounds of a layout. -/
def measOk (W r n a2 a3 : Int) : Prop := (4 ≤ W ∧ W ≤ 16 ∧ 1 ≤ a2 ∧ a2 ≤ 256 ∧ 0 ≤ a3 ∧ a3 ≤ 65536) ∧ a2 * n ≤ 4096 ∧ a2 * n * (W - 3) ≤ 65536 ∧ a2 * r + a3 ≤ 65536
instance (W r n a2 a3 : Int) : Decidable (measOk W r n a2 a3) := by unfold measOk; infer_instance
/-- What measure answers for a design that is formed. -/
def measD (D : Nat) (l : List (List Int)) (a2 a3 : Int) : Nums × Bool := if measOk (headLen l) (prs l 0 0) l.length a2 a3 then (⟨D, l, a2, a3, headLen l, prs l 0 0, l.length, T.ranksUpto l l.length, T.onAll l D, a2 * prs l 0 0, a2 * prs l 0 0 + a3⟩, true) else (noNums, false)
theorem measD_no {D : Nat} {l : List (List Int)} {a2 a3 : Int} (_ : formedB D l = true) (h : ¬ measOk (headLen l) (prs l 0 0) l.length a2 a3) : measD D l a2 a3 = (noNums, false) := if_neg h
theorem meas_end {D : Nat} {l : List (List Int)} {a2 a3 : Int} {w W' : World} (hN : measD D l a2 a3 = (noNums, false)) (hb : Below w.heap.size w W') : ∃ v, Ending.returned (.tuple (#[.agg noCells, .bool false])) = .returned (.tuple #[v, .bool (measD D l a2 a3).2]) ∧ NumsAt (measD D l a2 a3).1 W' v ∧ Below w.heap.size w W' := by
  rw [hN]
  exact ⟨_, rfl, noNums_at _, hb⟩
theorem r_of {D : Nat} {l : List (List Int)} {r lam : Int} (h : checkD D l = (r, lam, 0)) (hf : formedB D l = true) : r = (prs l 0 0 : Int) := by
  unfold checkD at h
  rw [if_pos hf] at h
  unfold T.chk at h
  split at h
  · injection h with h1 h2
    exact h1.symm
  · injection h with h1 h2
    injection h2 with h2 h3
    cases h3
theorem r_bound {D : Nat} {l : List (List Int)} {r lam : Int} (h : checkD D l = (r, lam, 0)) (hf : formedB D l = true) : 0 ≤ r ∧ r ≤ 14745600 := by
  rw [r_of h hf]
  have hF := (fm_of hf).2
  have h1 := T.prs_le l 60 (fun g hg => by obtain ⟨i, hi, rfl⟩ := List.mem_iff_getElem.1 hg; exact hF.row i hi) 0 0
  have h2 : l.length * (60 * 60) ≤ 4096 * (60 * 60) := Nat.mul_le_mul_right _ hF.len
  omega
/-- The blocks that measure knows: its box, its result, its numbers. -/
structure St (w0 : World) (bx X : Array Value) (b7 : Nat) (wr : World) : Prop where
  box : wr.heap[w0.heap.size]? = some (.cells bx 28 (0, 0))
  res : wr.heap[w0.heap.size + 1]? = some (.cells noCells 67 (0, 0))
  num : wr.heap[b7]? = some (.cells X 67 (0, 0))
  low : w0.heap.size + 1 < b7
  bel : Below w0.heap.size w0 wr
theorem St.set {w0 wr : World} {bx X : Array Value} {b7 : Nat} (h : St w0 bx X b7 wr) (i : Nat) (v : Value) : St w0 bx (X.setIfInBounds i v) b7 (wr.setCell ⟨b7, i, none⟩ v) :=
  ⟨blk_far h.box (by have := h.low; show w0.heap.size ≠ b7; omega) _, blk_far h.res (by have := h.low; show w0.heap.size + 1 ≠ b7; omega) _, blk_set h.num i v, h.low, below_set h.bel (by have := h.low; omega)⟩
/-- Rows of one's own are none of the known blocks: what writes them leaves these. -/
theorem St.grown {w0 wr w1 : World} {bx X : Array Value} {b7 : Nat} (h : St w0 bx X b7 wr) {row : Option Nat} (hg : wr.grownBy w1 row) (hr : ∀ k, row = some k → w0.heap.size ≤ k ∧ ∃ cells q, (q = 3 ∨ q = 56) ∧ wr.heap[k]? = some (.cells cells q (0, 0))) : St w0 bx X b7 w1 := by
  have hne : ∀ {k t : Nat} {cs : Array Value}, wr.heap[k]? = some (.cells cs t (0, 0)) → t ≠ 3 → t ≠ 56 → some k ≠ row := by
    intro k t cs hk h3 h56 he
    obtain ⟨_, cells, q, hq, hc⟩ := hr k he.symm
    rw [hk] at hc
    injection hc with hc
    injection hc with _ hc
    rcases hq with hq | hq
    · exact h3 (hc.trans hq)
    · exact h56 (hc.trans hq)
  exact ⟨blk_grown h.box hg (hne h.box (by decide) (by decide)), blk_grown h.res hg (hne h.res (by decide) (by decide)), blk_grown h.num hg (hne h.num (by decide) (by decide)), h.low, h.bel.grown hg h.bel.size (fun k hk => (hr k hk).1)⟩
theorem St.below {w0 wr w1 : World} {bx X : Array Value} {b7 : Nat} (h : St w0 bx X b7 wr) (hb : Below wr.heap.size wr w1) : St w0 bx X b7 w1 :=
  ⟨blk_below h.box hb, blk_below h.res hb, blk_below h.num hb, h.low, below_step h.bel hb⟩
theorem St.far {w0 wr : World} {bx X : Array Value} {b7 : Nat} (h : St w0 bx X b7 wr) {g : Nat} {cells : Array Value} (hg : wr.heap[g]? = some (.cells cells 56 (0, 0))) (hge : w0.heap.size ≤ g) (i : Nat) (v : Value) : St w0 bx X b7 (wr.setCell ⟨g, i, none⟩ v) := by
  have h1 : w0.heap.size ≠ g := fun e => by have := h.box; rw [e, hg] at this; injection this with this; injection this with _ this; cases this
  have h2 : w0.heap.size + 1 ≠ g := fun e => by have := h.res; rw [e, hg] at this; injection this with this; injection this with _ this; cases this
  have h3 : b7 ≠ g := fun e => by have := h.num; rw [e, hg] at this; injection this with this; injection this with _ this; cases this
  exact ⟨blk_far h.box h1 _, blk_far h.res h2 _, blk_far h.num h3 _, h.low, below_set h.bel hge⟩
/-- An own row's block, for St.grown. -/
theorem own_block {w : World} {base n : Nat} {e : TypeId} {v : Value} {xs : List Value} (h : w.ownsRow base e 1 v n xs) (he : e = 3 ∨ e = 56) : ∀ k, v.ownBlock = some k → base ≤ k ∧ ∃ cells q, (q = 3 ∨ q = 56) ∧ w.heap[k]? = some (.cells cells q (0, 0)) := fun k hk => by
  obtain ⟨cells, hc⟩ := own_typed h k hk
  exact ⟨own_base h k hk, cells, e, he, hc⟩
theorem encs_snoc (xs : List Int) (x : Int) : encs (Value.int .i64) xs ++ [.int .i64 x] = encs (Value.int .i64) (xs ++ [x]) := by simp [encs]
theorem incFrom_lt {a : Int} : ∀ {g : List Int} {lo : Int}, incFrom a lo g = true → (∀ x ∈ g, lo ≤ x) ∧ g.Pairwise (· < ·)
  | [], _, _ => ⟨fun _ h => (by cases h), .nil⟩
  | x :: r, lo, h => by
    simp only [incFrom, Bool.and_eq_true, decide_eq_true_eq] at h
    obtain ⟨h1, h2, h3⟩ := h
    obtain ⟨i1, i2⟩ := incFrom_lt h3
    refine ⟨fun y hy => ?_, .cons (fun y hy => by have := i1 y hy; omega) i2⟩
    rcases List.mem_cons.1 hy with rfl | hy
    · exact h1
    · have := i1 y hy; omega
theorem not_mem_take {a : Int} {l : List (List Int)} (hf : formedB a l = true) (g : Nat) (hg : g < l.length) (j : Nat) (hj : j < l[g].length) : ¬ (l[g][j] ∈ l[g].take j) := by
  simp only [formedB, Bool.and_eq_true, decide_eq_true_eq, List.all_eq_true] at hf
  have h6 := hf.2.2.2.2.2 _ (List.getElem_mem hg)
  simp only [rowB, Bool.and_eq_true, decide_eq_true_eq] at h6
  have hp := (incFrom_lt h6.2).2
  intro hm
  obtain ⟨i, hi, he⟩ := List.mem_iff_getElem.1 hm
  rw [List.length_take] at hi
  rw [List.getElem_take] at he
  have := (List.pairwise_iff_getElem.1 hp) i j (by omega) hj (by omega)
  omega
theorem letter {F P : World → Prop} {w : World} (h : P w) (k : ∀ w', P w' → F w') : F w := k w h

theorem M3_res {base gon D cap b : Nat} {vrk vcu : Value} {lon lrk : List (List Int)} {cu : List Int} {w : World} {cells : Array Value} (h : T.M3 base (.slice (some ⟨gon, 0, none⟩) D cap) vrk vcu lon lrk cu w) (hb : w.heap[b]? = some (.cells cells 67 (0, 0))) (v0 v1 v2 v3 v4 v5 v6 v7 v8 v9 v10 : Value) : T.M3 base (.slice (some ⟨gon, 0, none⟩) D cap) vrk vcu lon lrk cu (((((((((((w.setCell ⟨b, 0, none⟩ v0).setCell ⟨b, 1, none⟩ v1).setCell ⟨b, 2, none⟩ v2).setCell ⟨b, 3, none⟩ v3).setCell ⟨b, 4, none⟩ v4).setCell ⟨b, 5, none⟩ v5).setCell ⟨b, 6, none⟩ v6).setCell ⟨b, 7, none⟩ v7).setCell ⟨b, 8, none⟩ v8).setCell ⟨b, 9, none⟩ v9).setCell ⟨b, 10, none⟩ v10) := by
  refine h.step (fun k _ _ hk => heap11 (fun he => ?_) _ _ _ _ _ _ _ _ _ _ _)
  obtain ⟨q, cs, hq, hc⟩ := hk
  rw [he, hb] at hc
  injection hc with hc
  injection hc with _ hc
  rcases hq with hq | hq <;> (rw [hq] at hc; cases hc)
theorem meas_fin {base gon cap crk c D : Nat} {ad : Addr} {Ark : Option Addr} {l : List (List Int)} {a2 a3 W r Hm Cp : Int} {w W' : World} (HK : measOk (headLen l) (prs l 0 0) l.length a2 a3) (hW : W = (headLen l : Int)) (hr : r = (prs l 0 0 : Int)) (hHm : Hm = a2 * r) (hCp : Cp = Hm + a3)
    (M : T.M3 base (.slice (some ⟨gon, 0, none⟩) D cap) (.slice Ark l.length crk) (.slice none 0 0) (T.onAll l D) (T.ranksUpto l l.length) [] W') (hC : Kd.C (Kd.slice 3 (Kd.int .i64)) W' (some ad) l.length l) (hc : l.length ≤ c) (hb : Below w.heap.size w W') :
    ∃ v, Ending.returned (.tuple (#[.agg #[.int .i64 D, .slice (some ad) l.length c, .int .i64 a2, .int .i64 a3, .int .i64 W, .int .i64 r, .int .i64 l.length, .slice Ark l.length crk, .slice (some ⟨gon, 0, none⟩) D cap, .int .i64 Hm, .int .i64 Cp], .bool true])) = .returned (.tuple #[v, .bool (measD D l a2 a3).2]) ∧ NumsAt (measD D l a2 a3).1 W' v ∧ Below w.heap.size w W' := by
  have e : measD D l a2 a3 = (⟨D, l, a2, a3, headLen l, prs l 0 0, l.length, T.ranksUpto l l.length, T.onAll l D, a2 * prs l 0 0, a2 * prs l 0 0 + a3⟩, true) := if_pos HK
  rw [e]
  obtain ⟨⟨A8, c8, h8, l8, k8⟩, ⟨A7, c7, h7, l7, k7⟩⟩ := M.reads
  subst hCp hHm hr hW
  refine ⟨_, rfl, ⟨some ad, c, A7, c7, A8, c8, ?_, hC, hc, k7, l7, k8, l8⟩, hb⟩
  show Value.agg _ = Value.agg _
  rw [h7, h8]
end Go.Proofs.Ytebnladkogkpfaa.Q
