import Derived.Test.YtebnladkogkpfaaMemM
/-! Rows of rows and a row at hand, held apart; the coordinates of the plane of size 3 as plain lists. -/
namespace Go.Proofs.Ytebnladkogkpfaa.T
open Go.RowKit Go.Proofs.YtebnladkogkpfaaW.PrintWords Go.Proofs.YtebnladkogkpfaaW.PrintLast Go.Proofs.YtebnladkogkpfaaW.PrintMore
set_option linter.unusedVariables false

def M2 (base : Nat) (vG vL : Value) (lG : List (List Int)) (cu : List Int) (w : World) : Prop :=
  ∃ PG PL : Nat → Prop, (∀ k, PG k → ¬ PL k) ∧ Kd.S kR 56 w base PG vG lG ∧ Kd.R kI 3 w base PL vL cu
section
variable {base : Nat} {vG vL : Value} {lG : List (List Int)} {cu : List Int} {w w1 : World}
theorem M2.step (h : M2 base vG vL lG cu w) (hm : ∀ k, k < w.heap.size → base ≤ k → (∃ q cells, (q = 56 ∨ q = 3) ∧ w.heap[k]? = some (.cells cells q (0, 0))) → w1.heap[k]? = w.heap[k]?) : M2 base vG vL lG cu w1 := by
  obtain ⟨PG, PL, d1, hS, hC⟩ := h
  refine ⟨PG, PL, d1, Kd.S_mono (Kd.S_move (Kd.S_bound hS) ?_) (fun _ hk => hk.1), Kd.R_mono (Kd.R_move (Kd.R_bound hC) ?_) (fun _ hk => hk.1)⟩
  · rintro k ⟨_, hb, hlt, q, hq, cells, hc⟩
    refine hm k hlt hb ⟨q, cells, ?_, hc⟩
    simpa [kR, Kd.slice, kI, Kd.int, Kd.scalar] using hq
  · rintro k ⟨_, hb, hlt, q, hq, cells, hc⟩
    refine hm k hlt hb ⟨q, cells, .inr ?_, hc⟩
    simpa [kI, Kd.int, Kd.scalar] using hq
theorem M2.below (h : M2 base vG vL lG cu w) (hb : Below w.heap.size w w1) : M2 base vG vL lG cu w1 := h.step (fun k hk _ _ => hb.block k hk)
theorem M2.alloc (h : M2 base vG vL lG cu w) (o : Obj) : M2 base vG vL lG cu (w.alloc o) := h.below (below_alloc (Below.refl _ _) o)
theorem M2.set (h : M2 base vG vL lG cu w) {g t : Nat} {cells : Array Value} (hg : w.heap[g]? = some (.cells cells t (0, 0))) (ht : t ≠ 56 ∧ t ≠ 3) (j : Nat) (u : Value) : M2 base vG vL lG cu (w.setCell ⟨g, j, none⟩ u) := by
  refine h.step (fun k _ _ hk => Below.heap_setCell w ⟨g, j, none⟩ u k (fun he => ?_))
  obtain ⟨q, cs, hq, hc⟩ := hk
  have hkg : k = g := he
  rw [hkg, hg] at hc
  injection hc with hc
  injection hc with _ hc3
  rcases hq with hq | hq
  · exact ht.1 (hc3.trans hq)
  · exact ht.2 (hc3.trans hq)
theorem M2.own (h : M2 base vG vL lG cu w) : w.ownsRow base 3 1 vL cu.length (encs (Value.int .i64) cu) := by
  obtain ⟨PG, PL, d1, hS, hC⟩ := h
  exact Kd.own_of_R hC
theorem M2.cur (h : M2 base vG vL lG cu w) {vL' : Value} {cu' : List Int} (hg : w.grownBy w1 vL.ownBlock) (hat : vL'.ownBlock = vL.ownBlock ∨ ∃ b, vL'.ownBlock = some b ∧ w.heap.size ≤ b)
    (ho : w1.ownsRow base 3 1 vL' cu'.length (encs (Value.int .i64) cu')) : M2 base vG vL' lG cu' w1 := by
  obtain ⟨PG, PL, d1, hS, hC⟩ := h
  have hS2 := Kd.S_mono (ok' := fun k => PG k ∧ k < w.heap.size) (Kd.S_bound hS) (fun k hk => ⟨hk.1, hk.2.2.1⟩)
  have hb : ∀ k, some k = vL.ownBlock → PL k := fun k hk => hC.1 k hk.symm
  refine ⟨fun k => PG k ∧ k < w.heap.size, fun k => PL k ∨ w.heap.size ≤ k, fun k h1 h2 => h2.elim (d1 k h1.1) (by omega), Kd.S_grown hS2 hg (fun k hk he => d1 k hk.1 (hb k he)), Kd.R_of_own ho (fun k hk => ?_)⟩
  rcases hat with e | ⟨b, e, hle⟩
  · exact .inl (hb k (by rw [← e, hk]))
  · rw [e] at hk
    injection hk with hk
    subst hk
    exact .inr hle
theorem M2.row (h : M2 base vG vL lG cu w) : ∃ inner, w.ownsRow base 56 1 vG lG.length inner ∧ ∀ {w1 : World} {vG' : Value}, w.grownBy w1 vG.ownBlock → (vG'.ownBlock = vG.ownBlock ∨ ∃ b, vG'.ownBlock = some b ∧ w.heap.size ≤ b) →
    w1.ownsRow base 56 1 vG' (lG.length + 1) (inner ++ [vL]) → M2 base vG' (.slice none 0 0) (lG ++ [cu]) [] w1 := by
  obtain ⟨PG, PL, d1, hS, hC⟩ := h
  obtain ⟨f, hf, hR⟩ := Kd.S_tag hS lG.length PL (fun k hk h2 => d1 k h2 hk)
  obtain ⟨h0, inner, ho, hr⟩ := hR
  have hb : ∀ k, some k = vG.ownBlock → PG k := fun k hk => h0 k hk.symm
  have ho' := ho
  rw [List.length_zipIdx] at ho'
  refine ⟨inner, ho', fun {w1 vG'} hg hat ho1 => ⟨fun k => PG k ∨ PL k ∨ w.heap.size ≤ k, fun _ => False, fun _ _ h => h, ?_, Kd.R_nil _ _ _ _ _⟩⟩
  have := Kd.R_appended (d := Kd.tag f kR) (ok := fun k => PG k ∨ PL k ∨ w.heap.size ≤ k) (okp := PL) (p := (cu, lG.length)) (cs := [vL]) (inner := inner) (fun k hk => .inl (h0 k hk)) (hr.imp_ (fun _ _ hp => (Kd.tag f kR).M_mono (fun k hk => ⟨.inl hk.1, hk.2⟩) hp))
    (kR.M_mono (fun k hk => ⟨hk, hf k hk⟩) ⟨vL, rfl, hC⟩) (fun k hk => ⟨.inr (.inl hk), fun he => d1 k (hb k he) hk⟩) (fun k hk => .inr (.inr hk)) (by rw [List.length_zipIdx]; exact ho1) hg hat
  rw [← Kd.zip_snoc] at this
  exact ⟨f, this⟩
theorem M2.slice (h : M2 base vG vL lG cu w) : ∃ A c, vG = .slice A lG.length c := by
  obtain ⟨PG, PL, d1, hS, hC⟩ := h
  exact Kd.S_slice hS
theorem M2.sliceL (h : M2 base vG vL lG cu w) : ∃ A c, vL = .slice A cu.length c := by
  obtain ⟨PG, PL, d1, hS, hC⟩ := h
  exact Kd.R_slice hC
theorem M2.groups (h : M2 base vG vL lG cu w) : Kd.S kR 56 w base (fun _ => True) vG lG := by
  obtain ⟨PG, PL, d1, hS, hC⟩ := h
  exact Kd.S_mono hS (fun _ _ => trivial)
end

/-! the plane of size 3 -/
def tri (m : Nat) : List Int := [((m / 9 : Nat) : Int), ((m / 3 % 3 : Nat) : Int), ((m % 3 : Nat) : Int)]
def goodT (m : Nat) : Bool := m / 9 == 1 || (m / 9 == 0 && m / 3 % 3 == 1) || (m / 9 == 0 && (m / 3 % 3 == 0 && m % 3 == 1))
def pre (m : Nat) : List (List Int) := ((List.range m).filter goodT).map tri
theorem pre_succ (m : Nat) : pre (m + 1) = pre m ++ if goodT m = true then [tri m] else [] := by
  unfold pre
  rw [List.range_succ, List.filter_append, List.map_append]
  congr 1
  by_cases h : goodT m = true <;> simp [h]
theorem pre_len (m : Nat) : (pre m).length ≤ m := by
  unfold pre
  rw [List.length_map]
  exact Nat.le_trans (List.length_filter_le _ _) (Nat.le_of_eq List.length_range)
theorem pre_yes {m : Nat} (h : goodT m = true) : pre (m + 1) = pre m ++ [tri m] := by rw [pre_succ, if_pos h]
theorem pre_no {m : Nat} (h : goodT m = false) : pre (m + 1) = pre m := by rw [pre_succ, if_neg (by rw [h]; decide), List.append_nil]
theorem tri_at {x y z : Nat} (hy : y < 3) (hz : z < 3) : tri (9 * x + 3 * y + z) = [(x : Int), (y : Int), (z : Int)] := by
  unfold tri
  rw [show (9 * x + 3 * y + z) / 9 = x by omega, show (9 * x + 3 * y + z) / 3 % 3 = y by omega, show (9 * x + 3 * y + z) % 3 = z by omega]
theorem good_at {x y z : Nat} (hy : y < 3) (hz : z < 3) : goodT (9 * x + 3 * y + z) = (x == 1 || (x == 0 && y == 1) || (x == 0 && (y == 0 && z == 1))) := by
  unfold goodT
  rw [show (9 * x + 3 * y + z) / 9 = x by omega, show (9 * x + 3 * y + z) / 3 % 3 = y by omega, show (9 * x + 3 * y + z) % 3 = z by omega]
/-- Coordinate n of point i. -/
def cr (i n : Nat) : Nat := (((pre 27).getD i []).getD n 0).toNat
theorem pre27 : (pre 27).length = 13 := by decide
theorem cr_at : ∀ i, i < 13 → ∀ n, n < 3 → ((pre 27).getD i []).getD n 0 = (cr i n : Int) ∧ cr i n ≤ 2 := by decide
/-- The product of points i and k, n coordinates done. -/
def sm (i k : Nat) : Nat → Nat
  | 0 => 0
  | n + 1 => (sm i k n + cr i n * cr k n % 3) % 3
theorem sm_le (i k : Nat) : ∀ n, sm i k n ≤ 2
  | 0 => by simp [sm]
  | n + 1 => by simp only [sm]; omega
def lineUpto (i k : Nat) : List Int := ((List.range k).filter fun j => sm i j 3 == 0).map fun (j : Nat) => (j : Int)
theorem lineUpto_yes {i k : Nat} (h : (sm i k 3 == 0) = true) : lineUpto i (k + 1) = lineUpto i k ++ [(k : Int)] := by
  unfold lineUpto
  rw [List.range_succ, List.filter_append, List.map_append]
  congr 1
  simp [h]
theorem lineUpto_no {i k : Nat} (h : (sm i k 3 == 0) = false) : lineUpto i (k + 1) = lineUpto i k := by
  unfold lineUpto
  rw [List.range_succ, List.filter_append, List.map_append]
  simp [h]
theorem lineUpto_len (i k : Nat) : (lineUpto i k).length ≤ k := by
  unfold lineUpto
  rw [List.length_map]
  exact Nat.le_trans (List.length_filter_le _ _) (Nat.le_of_eq List.length_range)
def linesUpto (i : Nat) : List (List Int) := (List.range i).map fun j => lineUpto j 13
theorem linesUpto_succ (i : Nat) : linesUpto (i + 1) = linesUpto i ++ [lineUpto i 13] := by
  unfold linesUpto
  rw [List.range_succ, List.map_append]; rfl
theorem linesUpto_len (i : Nat) : (linesUpto i).length = i := by simp [linesUpto]
end Go.Proofs.Ytebnladkogkpfaa.T
