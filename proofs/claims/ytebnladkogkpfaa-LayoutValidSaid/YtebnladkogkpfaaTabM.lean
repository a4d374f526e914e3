import Derived.Test.YtebnladkogkpfaaWWords
/-! The groups with each disk, and the ranks: plain facts, no program. -/
namespace Go.Proofs.Ytebnladkogkpfaa.T

/-- The groups before g that hold d. -/
def onUpto (l : List (List Int)) (g : Nat) (d : Int) : List Int := ((List.range g).filter fun i => decide (d ∈ l.getD i [])).map fun (i : Nat) => (i : Int)
theorem onUpto_succ (l : List (List Int)) (g : Nat) (d : Int) : onUpto l (g + 1) d = onUpto l g d ++ if d ∈ l.getD g [] then [(g : Int)] else [] := by
  unfold onUpto
  rw [List.range_succ, List.filter_append, List.map_append]
  congr 1
  by_cases h : d ∈ l.getD g []
  · rw [if_pos h]
    simp only [List.filter_cons, List.filter_nil]
    rw [if_pos (decide_eq_true h)]
    rfl
  · rw [if_neg h]
    simp only [List.filter_cons, List.filter_nil]
    rw [if_neg (by rw [decide_eq_true_eq]; exact h)]
    rfl
theorem onUpto_len (l : List (List Int)) (g : Nat) (d : Int) : (onUpto l g d).length ≤ g := by
  unfold onUpto
  rw [List.length_map]
  exact Nat.le_trans (List.length_filter_le _ _) (Nat.le_of_eq List.length_range)
/-- The groups with each disk, when of group g (row) j places are done. -/
def onAt (l : List (List Int)) (D g : Nat) (row : List Int) (j : Nat) : List (List Int) := (List.range D).map fun (d : Nat) => onUpto l g (d : Int) ++ if (d : Int) ∈ row.take j then [(g : Int)] else []
theorem onAt_len (l : List (List Int)) (D g : Nat) (row : List Int) (j : Nat) : (onAt l D g row j).length = D := by simp [onAt]
theorem onAt_get (l : List (List Int)) (D g : Nat) (row : List Int) (j : Nat) {d : Nat} (h : d < D) : (onAt l D g row j)[d]? = some (onUpto l g (d : Int) ++ if (d : Int) ∈ row.take j then [(g : Int)] else []) := by
  unfold onAt
  rw [List.getElem?_map, List.getElem?_range h]; rfl
theorem onAt_set (l : List (List Int)) (D g : Nat) (row : List Int) (j : Nat) (hj : j < row.length) {d : Nat} (hd : row[j] = (d : Int)) :
    (onAt l D g row j).set d (onUpto l g (d : Int) ++ [(g : Int)]) = onAt l D g row (j + 1) := by
  apply List.ext_getElem?
  intro k
  rw [List.getElem?_set, onAt_len]
  by_cases hk : k < D
  · rw [onAt_get _ _ _ _ _ hk, onAt_get _ _ _ _ _ hk, List.take_succ_eq_append_getElem hj, hd]
    by_cases e : d = k
    · subst e
      rw [if_pos rfl, if_pos hk, if_pos (by simp)]
    · rw [if_neg e]
      have : ((k : Int) ∈ row.take j ++ [(d : Int)]) ↔ (k : Int) ∈ row.take j := by
        rw [List.mem_append, List.mem_singleton]
        constructor
        · rintro (h | h)
          · exact h
          · omega
        · exact .inl
      simp only [this]
  · rw [List.getElem?_eq_none (by rw [onAt_len]; omega)]
    rw [List.getElem?_eq_none (by rw [onAt_len]; omega)]
    split
    · rw [if_neg (by omega)]
    · rfl
theorem onAt_next (l : List (List Int)) (D g : Nat) (hg : g < l.length) (row' : List Int) : onAt l D g l[g] l[g].length = onAt l D (g + 1) row' 0 := by
  unfold onAt
  apply List.map_congr_left
  intro d _
  rw [onUpto_succ, List.take_length, List.take_zero, List.getD_eq_getElem?_getD, List.getElem?_eq_getElem hg]
  simp
theorem onAt_start (l : List (List Int)) (D g : Nat) (row row' : List Int) : onAt l D g row 0 = onAt l D g row' 0 := by simp [onAt]
theorem onAt_zero (l : List (List Int)) (D : Nat) (row : List Int) : onAt l D 0 row 0 = List.replicate D [] := by
  apply List.ext_getElem?
  intro k
  by_cases hk : k < D
  · rw [onAt_get _ _ _ _ _ hk, List.getElem?_replicate, if_pos hk]
    simp [onUpto]
  · rw [List.getElem?_eq_none (by rw [onAt_len]; omega), List.getElem?_eq_none (by rw [List.length_replicate]; omega)]
/-- The ranks in group g. -/
def rankRow (l : List (List Int)) (g : Nat) : List Int := (l.getD g []).map fun d => ((onUpto l g d).length : Int)
theorem rankRow_take (l : List (List Int)) (g : Nat) (hg : g < l.length) (j : Nat) (hj : j < l[g].length) :
    ((l[g].take (j + 1)).map fun d => ((onUpto l g d).length : Int)) = ((l[g].take j).map fun d => ((onUpto l g d).length : Int)) ++ [((onUpto l g l[g][j]).length : Int)] := by
  rw [List.take_succ_eq_append_getElem hj, List.map_append]
  rfl
theorem rankRow_all (l : List (List Int)) (g : Nat) (hg : g < l.length) : ((l[g].take l[g].length).map fun d => ((onUpto l g d).length : Int)) = rankRow l g := by
  unfold rankRow
  rw [List.take_length, List.getD_eq_getElem?_getD, List.getElem?_eq_getElem hg]
  rfl
def ranksUpto (l : List (List Int)) (g : Nat) : List (List Int) := (List.range g).map (rankRow l)
theorem ranksUpto_succ (l : List (List Int)) (g : Nat) : ranksUpto l (g + 1) = ranksUpto l g ++ [rankRow l g] := by
  unfold ranksUpto
  rw [List.range_succ, List.map_append]; rfl
theorem ranksUpto_len (l : List (List Int)) (g : Nat) : (ranksUpto l g).length = g := by simp [ranksUpto]
def onAll (l : List (List Int)) (D : Nat) : List (List Int) := (List.range D).map fun (d : Nat) => onUpto l l.length (d : Int)
theorem onAt_all (l : List (List Int)) (D : Nat) (row : List Int) : onAt l D l.length row 0 = onAll l D := by
  unfold onAt onAll
  apply List.map_congr_left
  intro d _
  simp
end Go.Proofs.Ytebnladkogkpfaa.T
