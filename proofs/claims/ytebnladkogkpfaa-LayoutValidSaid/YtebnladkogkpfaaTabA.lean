import Derived.Test.YtebnladkogkpfaaWWords
/-! Tables of 60 x 60 numbers and counts of pairs in lists: plain facts, no program. -/
namespace Go.Proofs.Ytebnladkogkpfaa.T
open Go.Proofs.YtebnladkogkpfaaW.PrintWords

/-- The table of f as one list. -/
def tabOf (f : Nat → Nat → Int) : List Int := (List.range 3600).map fun k => f (k / 60) (k % 60)
theorem tabOf_length (f : Nat → Nat → Int) : (tabOf f).length = 3600 := by simp [tabOf]
theorem tabOf_get (f : Nat → Nat → Int) {x y : Nat} (hx : x < 60) (hy : y < 60) : (tabOf f)[x * 60 + y]? = some (f x y) := by
  unfold tabOf
  rw [List.getElem?_map, List.getElem?_range (by omega)]
  simp only [Option.map_some]
  rw [show (x * 60 + y) / 60 = x by omega, show (x * 60 + y) % 60 = y by omega]
theorem tabOf_set (f : Nat → Nat → Int) {x y : Nat} (hx : x < 60) (hy : y < 60) (v : Int) :
    (tabOf f).set (x * 60 + y) v = tabOf (fun a b => if a = x ∧ b = y then v else f a b) := by
  apply List.ext_getElem?
  intro k
  rw [List.getElem?_set, tabOf_length]
  by_cases hk : k < 3600
  · by_cases h : x * 60 + y = k
    · rw [if_pos h, if_pos (by omega)]
      subst h
      rw [tabOf_get _ hx hy, if_pos ⟨rfl, rfl⟩]
    · rw [if_neg h]
      unfold tabOf
      rw [List.getElem?_map, List.getElem?_map, List.getElem?_range hk]
      simp only [Option.map_some]
      rw [if_neg (by omega)]
  · rw [if_neg (by omega), List.getElem?_eq_none (by rw [tabOf_length]; omega), List.getElem?_eq_none (by rw [tabOf_length]; omega)]
theorem tabOf_congr {f g : Nat → Nat → Int} (h : ∀ x y, x < 60 → y < 60 → f x y = g x y) : tabOf f = tabOf g := by
  unfold tabOf
  apply List.map_congr_left
  intro k hk
  rw [List.mem_range] at hk
  exact h _ _ (by omega) (by omega)
theorem tabOf_zero : tabOf (fun _ _ => 0) = List.replicate 3600 0 := by
  apply List.ext_getElem?
  intro k
  unfold tabOf
  by_cases hk : k < 3600
  · rw [List.getElem?_map, List.getElem?_range hk, List.getElem?_replicate, if_pos hk]; rfl
  · rw [List.getElem?_eq_none (by rw [List.length_map, List.length_range]; omega), List.getElem?_eq_none (by rw [List.length_replicate]; omega)]

/-- How many pairs of places hold (x, y), in all lists together. -/
def prs (l : List (List Int)) (x y : Int) : Nat := (l.map fun g => g.count x * g.count y).sum
theorem prs_snoc (l : List (List Int)) (g : List Int) (x y : Int) : prs (l ++ [g]) x y = prs l x y + g.count x * g.count y := by
  simp [prs]
theorem prs_take (l : List (List Int)) (i : Nat) (hi : i < l.length) (x y : Int) : prs (l.take (i + 1)) x y = prs (l.take i) x y + l[i].count x * l[i].count y := by
  rw [List.take_succ_eq_append_getElem hi, prs_snoc]
theorem count_take (g : List Int) (i : Nat) (hi : i < g.length) (x : Int) : (g.take (i + 1)).count x = (g.take i).count x + if g[i] = x then 1 else 0 := by
  rw [List.take_succ_eq_append_getElem hi, List.count_append, List.count_singleton]
  simp
/-- The table when i lists are done, of list i (row) j places, and of place j q places. -/
def part (l : List (List Int)) (row : List Int) (i j q : Nat) (x y : Nat) : Int :=
  ((prs (l.take i) x y + (row.take j).count (x : Int) * row.count (y : Int) + (if row[j]? = some (x : Int) then (row.take q).count (y : Int) else 0) : Nat) : Int)
theorem part_inner (l : List (List Int)) (row : List Int) (i j q : Nat) (hj : j < row.length) (hq : q < row.length) {a b : Nat} (ha : row[j] = (a : Int)) (hb : row[q] = (b : Int)) :
    (fun x y => if x = a ∧ y = b then part l row i j q a b + 1 else part l row i j q x y) = part l row i j (q + 1) := by
  funext x y
  unfold part
  rw [count_take row q hq, List.getElem?_eq_getElem hj, ha, hb]
  by_cases hx : x = a
  · subst hx
    by_cases hy : y = b
    · subst hy
      simp only [and_self, if_true]
      omega
    · have : ¬ ((b : Int) = (y : Int)) := by omega
      simp [hy, this]
  · have : ¬ ((a : Int) = (x : Int)) := by omega
    simp [hx, this]
theorem part_row (l : List (List Int)) (row : List Int) (i j : Nat) (hj : j < row.length) : part l row i j row.length = part l row i (j + 1) 0 := by
  funext x y
  unfold part
  rw [count_take row j hj, List.take_length, List.getElem?_eq_getElem hj]
  simp only [List.take_zero, List.count_nil, Option.some.injEq]
  congr 1
  by_cases h : row[j] = (x : Int)
  · rw [if_pos h, if_pos h, Nat.add_mul, Nat.one_mul]
    split <;> omega
  · rw [if_neg h, if_neg h]
    split <;> simp
theorem part_start (l : List (List Int)) (row row' : List Int) (i : Nat) : part l row i 0 0 = part l row' i 0 0 := by
  funext x y
  simp [part]
theorem part_list (l : List (List Int)) (i : Nat) (hi : i < l.length) (row' : List Int) : part l l[i] i l[i].length 0 = part l row' (i + 1) 0 0 := by
  funext x y
  unfold part
  rw [prs_take l i hi, List.take_length]
  simp
theorem part_zero (l : List (List Int)) (row : List Int) : part l row 0 0 0 = fun _ _ => 0 := by
  funext x y
  simp [part, prs]
theorem part_all (l : List (List Int)) (row : List Int) : part l row l.length 0 0 = fun (x y : Nat) => (prs l x y : Int) := by
  funext x y
  simp [part]
theorem prs_le (l : List (List Int)) (n : Nat) (hn : ∀ g ∈ l, g.length ≤ n) (x y : Int) : prs l x y ≤ l.length * (n * n) := by
  induction l with
  | nil => simp [prs]
  | cons g l ih =>
    have h1 := ih (fun g' hg' => hn g' (List.mem_cons_of_mem _ hg'))
    have h2 := hn g List.mem_cons_self
    have h3 : g.count x * g.count y ≤ n * n := Nat.mul_le_mul (Nat.le_trans List.count_le_length h2) (Nat.le_trans List.count_le_length h2)
    have h4 : prs (g :: l) x y = g.count x * g.count y + prs l x y := by simp [prs]
    rw [h4, List.length_cons, Nat.add_mul, Nat.one_mul]
    omega
/-- No number of the table comes near the bounds of an int. -/
theorem part_le (l : List (List Int)) (row : List Int) (i j q : Nat) (hl : l.length ≤ 4096) (hn : ∀ g ∈ l, g.length ≤ 60) (hr : row.length ≤ 60) (x y : Nat) : 0 ≤ part l row i j q x y ∧ part l row i j q x y ≤ 15000000 := by
  have h1 := prs_le (l.take i) 60 (fun g hg => hn g (List.mem_of_mem_take hg)) x y
  have h2 : (l.take i).length ≤ 4096 := by rw [List.length_take]; omega
  have h3 : (row.take j).count (x : Int) ≤ 60 := Nat.le_trans List.count_le_length (by rw [List.length_take]; omega)
  have h4 : row.count (y : Int) ≤ 60 := Nat.le_trans List.count_le_length hr
  have h5 : (row.take q).count (y : Int) ≤ 60 := Nat.le_trans List.count_le_length (by rw [List.length_take]; omega)
  have h6 : (row.take j).count (x : Int) * row.count (y : Int) ≤ 60 * 60 := Nat.mul_le_mul h3 h4
  have h7 : (l.take i).length * (60 * 60) ≤ 4096 * (60 * 60) := Nat.mul_le_mul_right _ h2
  unfold part
  constructor
  · omega
  · have h8 : (if row[j]? = some (x : Int) then (row.take q).count (y : Int) else 0) ≤ 60 := by split <;> omega
    omega
theorem part_bd (l : List (List Int)) (row : List Int) (i j q : Nat) (hl : l.length ≤ 4096) (hn : ∀ g (h : g < l.length), g < i → l[g].length ≤ 60) (hr : row.length ≤ 60) (x y : Nat) : 0 ≤ part l row i j q x y ∧ part l row i j q x y ≤ 15000000 := by
  have h1 := prs_le (l.take i) 60 (fun g hg => by
    obtain ⟨m, hm, rfl⟩ := List.mem_iff_getElem.1 hg
    rw [List.getElem_take]
    rw [List.length_take] at hm
    exact hn m (by omega) (by omega)) x y
  have h2 : (l.take i).length ≤ 4096 := by rw [List.length_take]; omega
  have h3 : (row.take j).count (x : Int) ≤ 60 := Nat.le_trans List.count_le_length (by rw [List.length_take]; omega)
  have h4 : row.count (y : Int) ≤ 60 := Nat.le_trans List.count_le_length hr
  have h5 : (row.take q).count (y : Int) ≤ 60 := Nat.le_trans List.count_le_length (by rw [List.length_take]; omega)
  have h6 : (row.take j).count (x : Int) * row.count (y : Int) ≤ 60 * 60 := Nat.mul_le_mul h3 h4
  have h7 : (l.take i).length * (60 * 60) ≤ 4096 * (60 * 60) := Nat.mul_le_mul_right _ h2
  unfold part
  constructor
  · omega
  · have h8 : (if row[j]? = some (x : Int) then (row.take q).count (y : Int) else 0) ≤ 60 := by split <;> omega
    omega
/-- Every two disks lie in as many lists together, every disk in as many. -/
def Bal (D : Nat) (l : List (List Int)) : Prop := ∀ x, x < D → ∀ y, y < D → (prs l (x : Int) (y : Int) : Int) = if x = y then (prs l 0 0 : Int) else (prs l 0 1 : Int)
instance (D : Nat) (l : List (List Int)) : Decidable (Bal D l) := by unfold Bal; infer_instance
/-- What Check answers for a design that is formed. -/
def chk (D : Nat) (l : List (List Int)) : Int × Int × Int := if Bal D l ∧ 1 ≤ prs l 0 1 then ((prs l 0 0 : Int), (prs l 0 1 : Int), 0) else (0, 0, 5)
theorem chk_no {D : Nat} {l : List (List Int)} {x y : Nat} (hx : x < D) (hy : y < D) (h : (prs l (x : Int) (y : Int) : Int) ≠ if x = y then (prs l 0 0 : Int) else (prs l 0 1 : Int)) : chk D l = (0, 0, 5) := by
  unfold chk
  rw [if_neg]
  intro hb
  exact h (hb.1 x hx y hy)
theorem chk_few {D : Nat} {l : List (List Int)} (h : (prs l 0 1 : Int) < 1) : chk D l = (0, 0, 5) := by
  unfold chk
  rw [if_neg]
  intro hb
  have := hb.2
  omega
theorem chk_yes {D : Nat} {l : List (List Int)} (hb : Bal D l) (h : 1 ≤ (prs l 0 1 : Int)) : chk D l = ((prs l 0 0 : Int), (prs l 0 1 : Int), 0) := by
  unfold chk
  rw [if_pos ⟨hb, by omega⟩]
end Go.Proofs.Ytebnladkogkpfaa.T
