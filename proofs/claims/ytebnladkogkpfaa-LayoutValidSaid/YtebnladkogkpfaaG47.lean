import Derived.Test.YtebnladkogkpfaaQ2
import Derived.Test.YtebnladkogkpfaaTabA
/-! What design.formed answers, as a plain function of the list. -/
namespace Go.Proofs.Ytebnladkogkpfaa.Q
open Go.RowKit Go.Proofs.YtebnladkogkpfaaW.PrintWords Go.Proofs.YtebnladkogkpfaaW.PrintLast Go.Proofs.YtebnladkogkpfaaW.PrintMore
set_option linter.unusedVariables false
set_option linter.unusedSimpArgs false

/-- Increasing numbers from lo on, below a. -/
def incFrom (a : Int) : Int → List Int → Bool
  | _, [] => true
  | lo, x :: r => decide (lo ≤ x) && (decide (x < a) && incFrom a (x + 1) r)
/-- A group of the width of the first one, increasing, below a. -/
def rowB (a : Int) (n : Nat) (g : List Int) : Bool := decide (g.length = n) && incFrom a 0 g
def headLen (l : List (List Int)) : Nat := (rd_L1 l 0).length
def formedB (a : Int) (l : List (List Int)) : Bool := decide (2 ≤ a) && (decide (a ≤ 60) && (decide (1 ≤ l.length) && (decide (l.length ≤ 4096) && (decide (2 ≤ headLen l) && l.all (rowB a (headLen l))))))

theorem rd_L1_nat {l : List (List Int)} {g : Nat} (h : g < l.length) : rd_L1 l (g : Int) = l[g] := by
  unfold rd_L1; rw [Int.toNat_natCast, List.getD_eq_getElem?_getD, List.getElem?_eq_getElem h]; rfl
theorem rd_nat {l : List Int} {g : Nat} (h : g < l.length) : rd l (g : Int) = l[g] := by
  unfold rd; rw [Int.toNat_natCast, List.getD_eq_getElem?_getD, List.getElem?_eq_getElem h]; rfl
theorem wrap_small {i : Int} (h0 : -9223372036854775808 ≤ i) (h : i ≤ 9223372036854775807) : wrap64 i = i := by
  unfold wrap64
  omega

theorem l1_ev (a : Int) (ha : a ≤ 60) (l : List (List Int)) (hl : l.length ≤ 4096) (i : Nat) (hi : i < l.length) (g : List Int) (r : Bool) :
    ∀ d j lo, g.length - j = d → j ≤ g.length → (0 < j → lo = rd g ((j : Int) - 1) + 1) → (j = 0 → lo = 0) → (j : Int) ≤ lo → lo ≤ 60 →
    (if incFrom a lo (g.drop j) = true then Ev (fun k => design_formed.l0 k l (l.length : Int) ((i : Int) + 1) a l) r else r = false) →
    Ev (fun k => design_formed.l1 k g l (l.length : Int) (i : Int) g (g.length : Int) (j : Int) a l) r := by
  intro d
  induction d with
  | zero =>
    intro j lo hd hj h1 h2 h3 h4 h
    rw [List.drop_eq_nil_of_le (by omega)] at h
    simp only [incFrom, if_true] at h
    refine Ev.step (f := fun k => design_formed.l0 k l (l.length : Int) ((i : Int) + 1) a l) (fun k => ?_) h
    simp only [design_formed.l1]
    rw [if_neg (by omega), wrap_small (by omega) (by omega)]
  | succ d ih =>
    intro j lo hd hj h1 h2 h3 h4 h
    have hlt : j < g.length := by omega
    rw [List.drop_eq_getElem_cons hlt] at h
    simp only [incFrom] at h
    obtain ⟨x, hx⟩ : ∃ x, x = g[j] := ⟨_, rfl⟩
    rw [← hx] at h
    have hr : rd g (j : Int) = x := by rw [rd_nat hlt, hx]
    by_cases hlo : lo ≤ x
    · by_cases hxa : x < a
      · have h5 := ih (j + 1) (x + 1) (by omega) (by omega) (fun _ => by rw [show ((j + 1 : Nat) : Int) - 1 = (j : Int) by omega, hr]) (fun e => by omega) (by omega) (by omega) (by
          simp only [hlo, hxa, decide_true, Bool.true_and] at h
          exact h)
        refine Ev.step (f := fun k => design_formed.l1 k g l (l.length : Int) (i : Int) g (g.length : Int) ((j + 1 : Nat) : Int) a l) (fun k => ?_) h5
        simp only [design_formed.l1]
        rw [if_pos (by omega), if_pos (by omega), if_pos (by omega), hr, if_neg (by omega), if_neg (by omega)]
        rw [wrap_small (i := (j : Int) + 1) (by omega) (by omega)]
        by_cases hj0 : (j : Int) > 0
        · rw [if_pos hj0, wrap_small (by omega) (by omega), if_pos (by omega), if_pos (by omega), if_neg (by have := h1 (by omega); omega)]
          rfl
        · rw [if_neg hj0]; rfl
      · simp only [hxa, decide_false, Bool.false_and, Bool.and_false] at h
        rw [if_neg (by simp)] at h
        subst h
        refine Ev.step (f := fun _ => some false) (fun k => ?_) (Ev.now _)
        simp only [design_formed.l1]
        rw [if_pos (by omega), if_pos (by omega), if_pos (by omega), hr]
        by_cases h0 : x < 0
        · rw [if_pos h0]
        · rw [if_neg h0, if_pos (by omega)]
    · simp only [hlo, decide_false, Bool.false_and] at h
      rw [if_neg (by simp)] at h
      subst h
      refine Ev.step (f := fun _ => some false) (fun k => ?_) (Ev.now _)
      simp only [design_formed.l1]
      rw [if_pos (by omega), if_pos (by omega), if_pos (by omega), hr]
      by_cases h0 : x < 0
      · rw [if_pos h0]
      · rw [if_neg h0]
        by_cases h9 : x ≥ a
        · rw [if_pos h9]
        · rw [if_neg h9]
          have hj0 : (j : Int) > 0 := by
            rcases Nat.eq_zero_or_pos j with h8 | h8
            · have := h2 h8; omega
            · omega
          rw [if_pos hj0, wrap_small (by omega) (by omega), if_pos (by omega), if_pos (by omega), if_pos (by have := h1 (by omega); omega)]
theorem l0_ev (a : Int) (ha : a ≤ 60) (l : List (List Int)) (hl : l.length ≤ 4096) (hp : 0 < l.length) :
    ∀ d i, l.length - i = d → i ≤ l.length → Ev (fun k => design_formed.l0 k l (l.length : Int) (i : Int) a l) ((l.drop i).all (rowB a (headLen l))) := by
  intro d
  induction d with
  | zero =>
    intro i hd hi
    rw [List.drop_eq_nil_of_le (by omega)]
    refine Ev.step (f := fun _ => some true) (fun k => ?_) (Ev.now _)
    simp only [design_formed.l0]
    rw [if_neg (by omega)]
  | succ d ih =>
    intro i hd hi
    have hlt : i < l.length := by omega
    have h1 := ih (i + 1) (by omega) (by omega)
    rw [List.drop_eq_getElem_cons hlt, List.all_cons]
    obtain ⟨g, hg⟩ : ∃ g, g = l[i] := ⟨_, rfl⟩
    rw [← hg]
    have hr : rd_L1 l (i : Int) = g := by rw [rd_L1_nat hlt, hg]
    unfold rowB
    by_cases hgl : g.length = headLen l
    · have h2 := l1_ev a ha l hl i hlt g (decide (g.length = headLen l) && incFrom a 0 g && (l.drop (i + 1)).all (rowB a (headLen l))) g.length 0 0 (by omega) (by omega) (fun h => by omega) (fun _ => rfl) (by omega) (by omega) (by
        rw [List.drop_zero]
        by_cases hin : incFrom a 0 g = true
        · rw [if_pos hin, hin, hgl]
          simp only [decide_true, Bool.true_and]
          have e : ((i + 1 : Nat) : Int) = (i : Int) + 1 := by omega
          rw [e] at h1
          exact h1
        · rw [if_neg hin]
          simp only [Bool.not_eq_true] at hin
          rw [hin]; simp)
      refine Ev.step (f := fun k => design_formed.l1 k g l (l.length : Int) (i : Int) g (g.length : Int) ((0 : Nat) : Int) a l) (fun k => ?_) h2
      simp only [design_formed.l0]
      rw [if_pos (by omega), if_pos (by omega), if_pos (by omega), if_pos (by omega), hr]
      rw [if_pos (by unfold headLen at hgl; rw [hgl])]
      rfl
    · rw [show decide (g.length = headLen l) = false from decide_eq_false hgl]
      simp only [Bool.false_and]
      refine Ev.step (f := fun _ => some false) (fun k => ?_) (Ev.now _)
      simp only [design_formed.l0]
      rw [if_pos (by omega), if_pos (by omega), if_pos (by omega), if_pos (by omega), hr, if_neg (by unfold headLen at hgl; omega)]
theorem formed_ev (a : Int) (l : List (List Int)) : ∃ k, design_formed.f k a l = some (formedB a l) := by
  refine Ev.rounds (g := fun k => design_formed.f k a l) ?_
  have hno : Ev (fun k => design_formed.j0 k true a l) false := Ev.step (f := fun _ => some false) (fun k => by simp [design_formed.j0]) (Ev.now _)
  unfold formedB design_formed.f
  by_cases h1 : a < 2
  · simp only [h1, if_true]
    rw [show decide (2 ≤ a) = false from decide_eq_false (by omega)]
    exact hno
  rw [show decide (2 ≤ a) = true from decide_eq_true (by omega)]
  simp only [h1, if_false, Bool.true_and]
  by_cases h2 : a > 60
  · simp only [h2, if_true]
    rw [show decide (a ≤ 60) = false from decide_eq_false (by omega)]
    exact hno
  rw [show decide (a ≤ 60) = true from decide_eq_true (by omega)]
  simp only [h2, if_false, Bool.true_and]
  by_cases h3 : (l.length : Int) < 1
  · simp only [h3, if_true]
    rw [show decide (1 ≤ l.length) = false from decide_eq_false (by omega)]
    exact hno
  rw [show decide (1 ≤ l.length) = true from decide_eq_true (by omega)]
  simp only [h3, if_false, Bool.true_and]
  by_cases h4 : (l.length : Int) > 4096
  · simp only [h4, if_true]
    rw [show decide (l.length ≤ 4096) = false from decide_eq_false (by omega)]
    exact hno
  rw [show decide (l.length ≤ 4096) = true from decide_eq_true (by omega)]
  simp only [h4, if_false, Bool.true_and]
  have h5 : 0 < (l.length : Int) := by omega
  simp only [h5, if_true]
  by_cases h6 : 2 ≤ headLen l
  · rw [show decide (2 ≤ headLen l) = true from decide_eq_true h6, show decide (((rd_L1 l 0).length : Int) < 2) = false from decide_eq_false (by unfold headLen at h6; omega)]
    have h7 := l0_ev a (by omega) l (by omega) (by omega) l.length 0 (by omega) (by omega)
    rw [List.drop_zero] at h7
    simp only [Bool.true_and]
    exact Ev.step (f := fun k => design_formed.l0 k l (l.length : Int) ((0 : Nat) : Int) a l) (fun k => by simp only [design_formed.j0]; rw [if_neg (by simp)]; rfl) h7
  · rw [show decide (2 ≤ headLen l) = false from decide_eq_false h6, show decide (((rd_L1 l 0).length : Int) < 2) = true from decide_eq_true (by unfold headLen at h6; omega)]
    exact hno
end Go.Proofs.Ytebnladkogkpfaa.Q
