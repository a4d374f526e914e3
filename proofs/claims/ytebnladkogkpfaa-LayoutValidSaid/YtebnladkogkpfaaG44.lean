import Derived.Test.YtebnladkogkpfaaG34
/-! The walk of the reference's Check. -/
namespace Go.Proofs.Ytebnladkogkpfaa.Q
open Go.RowKit Go.Proofs.YtebnladkogkpfaaW.PrintWords Go.Proofs.YtebnladkogkpfaaW.PrintLast Go.Proofs.YtebnladkogkpfaaW.PrintMore
open T (tabOf prs)
set_option linter.unusedVariables false
set_option linter.unusedSimpArgs false

/-- Place j of a row is as it must be. -/
def elOk (a : Int) (row : List Int) (j : Nat) : Prop := 0 ≤ rd row (j : Int) ∧ rd row (j : Int) < a ∧ (0 < j → rd row ((j : Int) - 1) < rd row (j : Int))
theorem incFrom_iff {a : Int} : ∀ {g : List Int} {lo : Int}, incFrom a lo g = true ↔ ∀ j (hj : j < g.length), g[j] < a ∧ (j = 0 → lo ≤ g[j]) ∧ (0 < j → g[j - 1] < g[j])
  | [], lo => by simp [incFrom]
  | x :: r, lo => by
    simp only [incFrom, Bool.and_eq_true, decide_eq_true_eq]
    rw [incFrom_iff]
    constructor
    · rintro ⟨h1, h2, h3⟩ j hj
      cases j with
      | zero => exact ⟨h2, fun _ => h1, fun h => absurd h (Nat.lt_irrefl 0)⟩
      | succ j =>
        have h4 := h3 j (by simpa using hj)
        refine ⟨by simpa using h4.1, fun h => by omega, fun _ => ?_⟩
        cases j with
        | zero => have := h4.2.1 rfl; simp only [Nat.zero_add, Nat.sub_self, List.getElem_cons_zero, List.getElem_cons_succ]; omega
        | succ j => have := h4.2.2 (by omega); simpa using this
    · intro h
      have h0 := h 0 (by simp)
      refine ⟨h0.2.1 rfl, h0.1, fun j hj => ?_⟩
      have h4 := h (j + 1) (by simpa using hj)
      refine ⟨by simpa using h4.1, fun e => ?_, fun hp => ?_⟩
      · subst e
        have := h4.2.2 (by omega)
        simp only [Nat.zero_add, Nat.sub_self, List.getElem_cons_zero, List.getElem_cons_succ] at this
        omega
      · have := h4.2.2 (by omega)
        obtain ⟨i, rfl⟩ : ∃ i, j = i + 1 := ⟨j - 1, by omega⟩
        simpa using this
theorem elOk_of {a : Int} {g : List Int} (h : incFrom a 0 g = true) : ∀ j, j < g.length → elOk a g j := by
  intro j hj
  have h2 := incFrom_iff.1 h
  have h1 := incFrom_len (Int.le_refl 0) h
  refine ⟨?_, ?_, fun hp => ?_⟩
  · rw [rd_nat hj]; exact (h1.2.2 j hj).1
  · rw [rd_nat hj]; exact (h1.2.2 j hj).2
  · rw [rd_nat hj, show (j : Int) - 1 = ((j - 1 : Nat) : Int) by omega, rd_nat (by omega)]
    exact (h2 j hj).2.2 hp
theorem inc_of {a : Int} {g : List Int} (h : ∀ j, j < g.length → elOk a g j) : incFrom a 0 g = true := by
  rw [incFrom_iff]
  intro j hj
  obtain ⟨h1, h2, h3⟩ := h j hj
  rw [rd_nat hj] at h1 h2 h3
  refine ⟨h2, fun _ => h1, fun hp => ?_⟩
  have := h3 hp
  rwa [show (j : Int) - 1 = ((j - 1 : Nat) : Int) by omega, rd_nat (by omega)] at this
/-- A row that is not as it must be. -/
theorem formed_no {a : Int} {l : List (List Int)} {g : Nat} (hg : g < l.length) (h : 2 ≤ headLen l → l[g].length = headLen l → ∃ j, j < l[g].length ∧ ¬ elOk a l[g] j) : formedB a l = false := by
  cases hb : formedB a l with
  | false => rfl
  | true =>
    simp only [formedB, Bool.and_eq_true, decide_eq_true_eq, List.all_eq_true] at hb
    obtain ⟨h1, h2, h3, h4, h5, h6⟩ := hb
    have h7 := h6 _ (List.getElem_mem hg)
    simp only [rowB, Bool.and_eq_true, decide_eq_true_eq] at h7
    obtain ⟨j, hj, hn⟩ := h h5 h7.1
    exact absurd (elOk_of h7.2 j hj) hn
theorem elOk_ge {a : Int} {g : List Int} {n : Nat} (h : ∀ i, i < n → elOk a g i) : ∀ i, i < n → (i : Int) ≤ rd g (i : Int) := by
  intro i
  induction i with
  | zero => intro hi; exact (h 0 hi).1
  | succ i ih =>
    intro hi
    have h1 := ih (by omega)
    have h2 := (h (i + 1) hi).2.2 (by omega)
    rw [show ((i + 1 : Nat) : Int) - 1 = (i : Int) by omega] at h2
    omega
theorem elOk_le {a : Int} {g : List Int} {n : Nat} (h0 : 0 ≤ a) (h : ∀ i, i < n → elOk a g i) : (n : Int) ≤ a := by
  cases n with
  | zero => simpa using h0
  | succ n =>
    have h1 := elOk_ge h n (by omega)
    have h2 := (h n (by omega)).2.1
    omega
theorem elOk_nat {a : Int} {g : List Int} {n : Nat} (h : ∀ i, i < n → elOk a g i) {i : Nat} (hi : i < n) (hg : i < g.length) : ∃ x : Nat, (x : Int) < a ∧ g[i] = (x : Int) := by
  obtain ⟨h1, h2, _⟩ := h i hi
  rw [rd_nat hg] at h1 h2
  exact ⟨g[i].toNat, by omega, by omega⟩
theorem elOk_snoc {a : Int} {g : List Int} {j : Nat} (h : ∀ i, i < j → elOk a g i) (h1 : 0 ≤ rd g (j : Int)) (h2 : rd g (j : Int) < a) (h3 : 0 < j → rd g ((j : Int) - 1) < rd g (j : Int)) : ∀ i, i < j + 1 → elOk a g i := by
  intro i hi
  by_cases e : i = j
  · subst e; exact ⟨h1, h2, h3⟩
  · exact h i (by omega)
/-- What the reference's Check answers. -/
def checkR (a : Int) (l : List (List Int)) : Int × Int × Bool := if formedB a l = true ∧ T.Bal a.toNat l then ((prs l 0 0 : Int), (prs l 0 1 : Int), decide (0 < (prs l 0 1 : Int))) else (0, 0, false)
theorem checkR_no {a : Int} {l : List (List Int)} (h : formedB a l = false) : checkR a l = (0, 0, false) := by
  unfold checkR
  rw [if_neg]
  rw [h]
  simp
theorem checkR_bal {a : Int} {l : List (List Int)} (h : ¬ T.Bal a.toNat l) : checkR a l = (0, 0, false) := by
  unfold checkR
  rw [if_neg (fun h2 => h h2.2)]
/-- The rows before g are as they must be. -/
structure Pre (a : Int) (l : List (List Int)) (g : Nat) : Prop where
  two : 0 < g → 2 ≤ headLen l
  rows : ∀ i (h : i < l.length), i < g → rowB a (headLen l) l[i] = true
theorem Pre.next {a : Int} {l : List (List Int)} {g : Nat} (h : Pre a l g) (hg : g < l.length) (h2 : 2 ≤ l[g].length) (hl : l[g].length = headLen l) (ho : ∀ j, j < l[g].length → elOk a l[g] j) : Pre a l (g + 1) := by
  refine ⟨fun _ => by omega, fun i hi hlt => ?_⟩
  by_cases e : i = g
  · subst e
    simp only [rowB, Bool.and_eq_true, decide_eq_true_eq]
    exact ⟨hl, inc_of ho⟩
  · exact h.rows i hi (by omega)
theorem Pre.all {a : Int} {l : List (List Int)} (h : Pre a l l.length) (h1 : 2 ≤ a) (h2 : a ≤ 60) (h3 : 1 ≤ l.length) (h4 : l.length ≤ 4096) : formedB a l = true := by
  simp only [formedB, Bool.and_eq_true, decide_eq_true_eq, List.all_eq_true]
  refine ⟨h1, h2, h3, h4, h.two (by omega), fun g hg => ?_⟩
  obtain ⟨i, hi, rfl⟩ := List.mem_iff_getElem.1 hg
  exact h.rows i hi hi
theorem head_nat {l : List (List Int)} (h : 0 < l.length) : headLen l = l[0].length := by
  unfold headLen
  rw [show (0 : Int) = ((0 : Nat) : Int) from rfl, rd_L1_nat h]

set_option maxHeartbeats 8000000 in
set_option maxRecDepth 100000 in
theorem refc_short (a : Int) (A0_1 : Option Addr) (c0_1 : Nat) (l : List (List Int)) (w : World) (hr0_1 : Kd.C (Kd.slice 3 (Kd.int .i64)) w A0_1 l.length l) (hc0_1 : l.length ≤ c0_1) (h : a < 2 ∨ 60 < a ∨ l.length < 1 ∨ 4096 < l.length) :
    Calls Try.prog 44 #[.agg #[.int .i64 a, .slice A0_1 l.length c0_1]] w fun e w' => e = .returned (.tuple #[.int .i64 0, .int .i64 0, .bool false]) ∧ Below w.heap.size w w' := by
  have hu26 := Try.underlying26
  have HR0_1 := Aside0.mk hr0_1
  have HC0_1 := Aside0.mk hc0_1
  clear hr0_1 hc0_1
  have HB := Aside0.mk (below_alloc (Below.refl w.heap.size w) (.cells #[.int .i64 a, .slice A0_1 l.length c0_1] 26))
  by_cases h1 : a < 2
  · go_enter Try.func44, Try.ntmps44
    go_wp2
    go_ret3
    exact ⟨rfl, HB.out⟩
  by_cases h2 : 60 < a
  · go_enter Try.func44, Try.ntmps44
    go_wp2
    go_ret3
    exact ⟨rfl, HB.out⟩
  by_cases h3 : l.length < 1
  · go_enter Try.func44, Try.ntmps44
    go_wp2
    go_ret3
    exact ⟨rfl, HB.out⟩
  have h4 : 4096 < l.length := by omega
  go_enter Try.func44, Try.ntmps44
  go_wp2
  go_ret3
  exact ⟨rfl, HB.out⟩

set_option maxHeartbeats 8000000 in
set_option maxRecDepth 100000 in
theorem refc_main (D : Nat) (A0_1 : Option Addr) (c0_1 : Nat) (l : List (List Int)) (w : World) (hr0_1 : Kd.C (Kd.slice 3 (Kd.int .i64)) w A0_1 l.length l) (hc0_1 : l.length ≤ c0_1) (h1 : 2 ≤ D) (h2 : D ≤ 60) (h3 : 1 ≤ l.length) (h4 : l.length ≤ 4096) :
    Calls Try.prog 44 #[.agg #[.int .i64 D, .slice A0_1 l.length c0_1]] w fun e w' => e = .returned (.tuple #[.int .i64 (checkR D l).1, .int .i64 (checkR D l).2.1, .bool (checkR D l).2.2]) ∧ Below w.heap.size w w' := by
  have hu26 := Try.underlying26
  have HR0_1 := Aside0.mk hr0_1
  have HC0_1 := Aside0.mk hc0_1
  clear hr0_1 hc0_1
  have hd1 : decide ((D : Int) < 2) = false := decide_eq_false (by omega)
  have hd2 : decide (60 < (D : Int)) = false := decide_eq_false (by omega)
  have hd3 : decide ((l.length : Int) < 1) = false := decide_eq_false (by omega)
  have hd4 : decide (4096 < (l.length : Int)) = false := decide_eq_false (by omega)
  go_enter Try.func44, Try.ntmps44
  go_wp2_with ((with_reducible refine gate_dst (N := 5) rfl ?_); refine alloc78 (N := 5) rfl rfl rfl ?_; intro B w2 hblk hlt hb2; have T0 := Aside0.mk (Tb.mk (w0 := w) hblk (by rw [World.size_alloc] at hlt; omega) (below_then (below_alloc (Below.refl _ _) _) (by rw [World.size_alloc]; omega) hb2) (blk_below (blk_new _ _) hb2)); clear hblk hlt hb2)
  clear hd1 hd2 hd3 hd4
  go_loopw [6] (fun i wr => ∃ g : Nat, g ≤ l.length ∧ i = .int .i64 g ∧ Aside0 (Pre D l g) ∧ Aside0 (Tb w #[.int .i64 D, .slice A0_1 l.length c0_1] B (T.part l [] g 0 0) wr)) (fun i _ => l.length - (intOf i).toNat)
  case atStart => exact ⟨0, Nat.zero_le _, rfl, ⟨⟨fun h => absurd h (Nat.lt_irrefl 0), fun i hi h => absurd h (Nat.not_lt_zero _)⟩⟩, ⟨by rw [T.part_zero]; exact T0.out⟩⟩
  case round =>
    obtain ⟨g, hg, rfl, PR, T1⟩ := hrel
    have hc0 := (blk_cell T1.out.box 0)
    have hc1 := (blk_cell T1.out.box 1)
    simp at hc0 hc1
    by_cases hlt : g < l.length
    · obtain ⟨ad, A1, c1, e1, hx1, hl1, hi1⟩ := at_L1 HR0_1.out (g : Int) (by omega) (by omega)
      obtain ⟨ad', A0, c0, e0, hx0, hl0, hi0⟩ := at_L1 HR0_1.out (0 : Int) (by omega) (by omega)
      subst e1
      cases e0
      replace hx1 := pw_cell_below T1.out.bel hx1
      replace hx0 := pw_cell_below T1.out.bel hx0
      rw [rd_L1_nat hlt] at hx1 hl1 hi1
      rw [Int.toNat_natCast] at hx1
      rw [show ((0 : Int)).toNat = 0 from rfl, Addr.add_zero'] at hx0
      have hhl : (rd_L1 l 0).length = headLen l := rfl
      rw [hhl] at hx0
      have HI1 := Aside0.mk hi1
      have HHL := Aside0.mk hhl
      clear hi1 hi0 hhl
      by_cases hs : l[g].length < 2
      · have HN : Aside0 (checkR D l = (0, 0, false)) := ⟨checkR_no (formed_no hlt (fun h5 h6 => by omega))⟩
        have hs1 : decide ((l[g].length : Int) < 2) = true := decide_eq_true (by omega)
        clear hs
        go_wp2
        go_ret3
        exact ⟨by rw [HN.out]; rfl, T1.out.bel⟩
      have hs1 : decide ((l[g].length : Int) < 2) = false := decide_eq_false (by omega)
      by_cases hne : l[g].length = headLen l
      rotate_left
      · have HN : Aside0 (checkR D l = (0, 0, false)) := ⟨checkR_no (formed_no hlt (fun h5 h6 => absurd h6 hne))⟩
        have hn1 : ((l[g].length : Int) != (headLen l : Int)) = true := by rw [bne_iff_ne]; omega
        have hn2 : (l[g].length != headLen l) = true := by rw [bne_iff_ne]; exact hne
        have HNE := Aside0.mk hne
        clear hne
        go_wp2
        go_ret3
        exact ⟨by rw [HN.out]; rfl, T1.out.bel⟩
      have hn1 : ((l[g].length : Int) != (headLen l : Int)) = false := by rw [bne_eq_false_iff_eq]; omega
      have hn2 : (l[g].length != headLen l) = false := by rw [bne_eq_false_iff_eq]; exact hne
      have HNE := Aside0.mk hne
      clear hne
      have T2 : Aside0 (Tb w #[.int .i64 D, .slice (some ad) l.length c0_1] B (T.part l l[g] g 0 0) wr) := ⟨by rw [T.part_start _ _ []]; exact T1.out⟩
      clear T1 T0
      go_wp2_with fail
      clear hn1 hn2 hs1
      go_loopw [8] (fun i wr => ∃ j : Nat, j ≤ l[g].length ∧ i = .int .i64 j ∧ Aside0 ((∀ i, i < j → elOk D l[g] i) ∧ j ≤ 60) ∧ Aside0 (Tb w #[.int .i64 D, .slice (some ad) l.length c0_1] B (T.part l l[g] g 0 0) wr)) (fun i _ => l[g].length - (intOf i).toNat)
      case atStart => exact ⟨0, Nat.zero_le _, rfl, ⟨fun i hi => absurd hi (Nat.not_lt_zero _), by omega⟩, T2⟩
      case round =>
        obtain ⟨j, hj, rfl, EL, T3⟩ := hrel
        have hj60 := EL.out.2
        have hc0' := (blk_cell T3.out.box 0)
        have hc1' := (blk_cell T3.out.box 1)
        simp at hc0' hc1'
        by_cases hjlt : j < l[g].length
        · obtain ⟨ad2, e2, hx2⟩ := Kd.at_int HI1.out (j : Int) (by omega) (by omega)
          subst e2
          replace hx2 := pw_cell_below T3.out.bel hx2
          rw [Int.toNat_natCast] at hx2
          obtain ⟨x, hx⟩ : ∃ x, x = rd l[g] (j : Int) := ⟨_, rfl⟩
          rw [← hx] at hx2
          have HX := Aside0.mk hx
          clear hx
          have hno : ∀ (hh : ¬ elOk D l[g] j), Aside0 (checkR D l = (0, 0, false)) := fun hh => ⟨checkR_no (formed_no hlt (fun _ _ => ⟨j, hjlt, hh⟩))⟩
          have HNO := Aside0.mk hno
          clear hno
          by_cases hxn : x < 0
          · have HN := HNO.out (fun hh => by have := hh.1; rw [← HX.out] at this; omega)
            have hb1 : decide (x < 0) = true := decide_eq_true hxn
            clear hxn
            go_wp2_with fail
            go_quiet (fail)
            go_wp2
            go_ret3
            exact ⟨by rw [HN.out]; rfl, pw_below_drewN T3.out.bel _⟩
          have hb1 : decide (x < 0) = false := decide_eq_false hxn
          by_cases hxa : (D : Int) ≤ x
          · have HN := HNO.out (fun hh => by have := hh.2.1; rw [← HX.out] at this; omega)
            have hb2 : decide ((D : Int) ≤ x) = true := decide_eq_true hxa
            clear hxn hxa
            go_wp2_with fail
            go_quiet (fail)
            go_wp2
            go_ret3
            exact ⟨by rw [HN.out]; rfl, pw_below_drewN T3.out.bel _⟩
          have hb2 : decide ((D : Int) ≤ x) = false := decide_eq_false hxa
          rcases Nat.eq_zero_or_pos j with hj0 | hj0
          · have EL2 : Aside0 ((∀ i, i < j + 1 → elOk D l[g] i) ∧ j + 1 ≤ 60) := ⟨elOk_snoc EL.out.1 (by rw [← HX.out]; omega) (by rw [← HX.out]; omega) (fun h => by omega), by omega⟩
            have hb4 : decide (0 < (j : Int)) = false := decide_eq_false (by omega)
            have hb5 : decide (0 < j) = false := decide_eq_false (by omega)
            have hb6 : ¬ (0 < (j : Int)) := by omega
            have hb7 : ¬ (0 < j) := by omega
            have T4 := T3
            have HJ0 := Aside0.mk hj0
            clear HNO EL hxn hxa hj0
            go_wp2_with fail
            go_quiet (fail)
            go_wp2
            go_roundw
            case rel => exact ⟨j + 1, by omega, by go_num, EL2, ⟨T4.out.drewN _⟩⟩
            case measure => simp [intOf]; omega
          obtain ⟨ad4, e4, hx4⟩ := Kd.at_int HI1.out ((j : Int) - 1) (by omega) (by omega)
          cases e4
          replace hx4 := pw_cell_below T3.out.bel hx4
          have hx5 := hx4
          rw [show ((j : Int) - 1).toNat = j - 1 by omega] at hx5
          obtain ⟨y, hy⟩ : ∃ y, y = rd l[g] ((j : Int) - 1) := ⟨_, rfl⟩
          rw [← hy] at hx4 hx5
          have HY := Aside0.mk hy
          clear hy
          have hb4 : decide (0 < (j : Int)) = true := decide_eq_true (by omega)
          by_cases hxy : x ≤ y
          · have HN := HNO.out (fun hh => by have := hh.2.2 hj0; rw [← HX.out, ← HY.out] at this; omega)
            have hb3 : decide (x ≤ y) = true := decide_eq_true hxy
            clear hxn hxa hxy
            go_wp2_with fail
            go_quiet (fail)
            go_wp2
            go_ret3
            exact ⟨by rw [HN.out]; rfl, pw_below_drewN T3.out.bel _⟩
          have hb3 : decide (x ≤ y) = false := decide_eq_false hxy
          have EL1 := elOk_snoc EL.out.1 (by rw [← HX.out]; omega) (by rw [← HX.out]; omega) (fun _ => by rw [← HX.out, ← HY.out]; omega)
          have EL2 : Aside0 ((∀ i, i < j + 1 → elOk D l[g] i) ∧ j + 1 ≤ 60) := ⟨EL1, by have := elOk_le (by omega) EL1; omega⟩
          clear EL1
          have T4 := T3
          clear HNO EL hxn hxa hxy
          go_wp2_with fail
          go_quiet (fail)
          go_wp2
          go_roundw
          case rel => exact ⟨j + 1, by omega, by go_num, EL2, ⟨T4.out.drewN _⟩⟩
          case measure => simp [intOf]; omega
        · have hrow : l[g].length ≤ 60 := by omega
          have EL1 : Aside0 (∀ i, i < l[g].length → elOk D l[g] i) := ⟨fun i hi => EL.out.1 i (by omega)⟩
          have PR2 : Aside0 (Pre D l (g + 1)) := ⟨PR.out.next hlt (by omega) HNE.out EL1.out⟩
          clear EL
          go_wp2_with fail
          go_loopw [9] (fun i wr => ∃ j : Nat, j ≤ l[g].length ∧ i = .int .i64 j ∧ Aside0 (Tb w #[.int .i64 D, .slice (some ad) l.length c0_1] B (T.part l l[g] g j 0) wr)) (fun i _ => l[g].length - (intOf i).toNat)
          case atStart => exact ⟨0, Nat.zero_le _, rfl, T3⟩
          case round =>
            obtain ⟨j, hj, rfl, T3⟩ := hrel
            by_cases hjlt : j < l[g].length
            · obtain ⟨ad2, e2, hx2⟩ := Kd.at_int HI1.out (j : Int) (by omega) (by omega)
              subst e2
              obtain ⟨x, hxD, hxe⟩ := elOk_nat EL1.out hjlt hjlt
              rw [rd_nat hjlt, hxe, Int.toNat_natCast] at hx2
              have HXE := Aside0.mk hxe
              clear hxe
              have HX2 := Aside0.mk hx2
              clear hx2
              go_wp2_with fail
              go_loopw [10] (fun i wr => ∃ q : Nat, q ≤ l[g].length ∧ i = .int .i64 q ∧ Aside0 (Tb w #[.int .i64 D, .slice (some ad) l.length c0_1] B (T.part l l[g] g j q) wr)) (fun i _ => l[g].length - (intOf i).toNat)
              case atStart => exact ⟨0, Nat.zero_le _, rfl, T3⟩
              case round =>
                obtain ⟨q, hq, rfl, T4⟩ := hrel
                by_cases hqlt : q < l[g].length
                · obtain ⟨ad3, e3, hx3⟩ := Kd.at_int HI1.out (q : Int) (by omega) (by omega)
                  cases e3
                  replace hx3 := pw_cell_below T4.out.bel hx3
                  have hx2 := pw_cell_below T4.out.bel HX2.out
                  obtain ⟨y, hyD, hye⟩ := elOk_nat EL1.out hqlt hqlt
                  rw [rd_nat hqlt, hye, Int.toNat_natCast] at hx3
                  have HYE := Aside0.mk hye
                  clear hye
                  have hcell := (blk_cell T4.out.blk (x * 60 + y)).trans (tcells_get _ (by omega) (by omega))
                  obtain ⟨v, hv⟩ : ∃ v, v = T.part l l[g] g j q x y := ⟨_, rfl⟩
                  have hvb : 0 ≤ v ∧ v ≤ 15000000 := by
                    rw [hv]
                    have hp := T.part_bd l l[g] g j q (by omega) (fun i hi hlt => by have := (rowB_el (by omega) (PR2.out.rows i hi (by omega))).2.1; omega) hrow x y
                    exact hp
                  rw [← hv] at hcell
                  have HV := Aside0.mk hv
                  clear hv
                  have hfr := blk_frozen T4.out.blk (x * 60 + y)
                  go_wp2_with fail
                  go_region
                  go_wp2
                  go_roundw
                  case rel =>
                    exact ⟨q + 1, by omega, by go_num, ⟨by
                      have h5 := (T4.out.set (x := x) (y := y) (by omega) (by omega) (v + 1)).drew
                      have h7 := T.part_inner l _ g j q hjlt hqlt HXE.out HYE.out
                      rw [← HV.out] at h7
                      rw [h7] at h5
                      exact h5⟩⟩
                  case measure => simp [intOf]; omega
                · have T5 : Aside0 (Tb w #[.int .i64 D, .slice (some ad) l.length c0_1] B (T.part l l[g] g (j + 1) 0) wr) := ⟨by have h6 := T4.out; rw [show q = l[g].length by omega, T.part_row l _ g j hjlt] at h6; exact h6⟩
                  go_wp2
                  go_roundw
                  case rel => exact ⟨j + 1, by omega, by go_num, T5⟩
                  case measure => simp [intOf]; omega
            · have T5 : Aside0 (Tb w #[.int .i64 D, .slice (some ad) l.length c0_1] B (T.part l [] (g + 1) 0 0) wr) := ⟨by have h6 := T3.out; rw [show j = l[g].length by omega, T.part_list l g hlt []] at h6; exact h6⟩
              go_wp2
              go_roundw
              case rel => exact ⟨g + 1, by omega, by go_num, PR2, T5⟩
              case measure => simp [intOf]; omega
    · have T5 : Aside0 (Tb w #[.int .i64 D, .slice A0_1 l.length c0_1] B (fun (x y : Nat) => (prs l x y : Int)) wr) := ⟨by have h6 := T1.out; rw [show g = l.length by omega, T.part_all] at h6; exact h6⟩
      have HF : Aside0 (formedB D l = true) := ⟨(show Pre D l l.length by have := PR.out; rwa [show g = l.length by omega] at this).all (by omega) (by omega) h3 h4⟩
      clear T1 T0
      obtain ⟨r0, hr0⟩ : ∃ r0 : Int, r0 = (prs l 0 0 : Int) := ⟨_, rfl⟩
      obtain ⟨r1, hr1⟩ : ∃ r1 : Int, r1 = (prs l 0 1 : Int) := ⟨_, rfl⟩
      have HR0 := Aside0.mk hr0
      have HR1 := Aside0.mk hr1
      clear hr0 hr1
      go_wp2_with fail
      go_loopw [11] (fun i wr => ∃ a : Nat, a ≤ D ∧ i = .int .i64 a ∧ Aside0 (∀ x, x < a → ∀ y, y < D → (prs l (x : Int) (y : Int) : Int) = if x = y then (prs l 0 0 : Int) else (prs l 0 1 : Int)) ∧ Aside0 (Tb w #[.int .i64 D, .slice A0_1 l.length c0_1] B (fun (x y : Nat) => (prs l x y : Int)) wr)) (fun i _ => D - (intOf i).toNat)
      case atStart => exact ⟨0, Nat.zero_le _, rfl, ⟨fun x hx => absurd hx (Nat.not_lt_zero _)⟩, T5⟩
      case round =>
        obtain ⟨a, ha, rfl, J1, T6⟩ := hrel
        have hc0 := (blk_cell T6.out.box 0)
        have hc1 := (blk_cell T6.out.box 1)
        simp at hc0 hc1
        by_cases halt : a < D
        · go_wp2_with fail
          go_loopw [12] (fun i wr => ∃ b : Nat, b ≤ D ∧ i = .int .i64 b ∧ Aside0 (∀ y, y < b → (prs l (a : Int) (y : Int) : Int) = if a = y then (prs l 0 0 : Int) else (prs l 0 1 : Int)) ∧ Aside0 (Tb w #[.int .i64 D, .slice A0_1 l.length c0_1] B (fun (x y : Nat) => (prs l x y : Int)) wr)) (fun i _ => D - (intOf i).toNat)
          case atStart => exact ⟨0, Nat.zero_le _, rfl, ⟨fun x hx => absurd hx (Nat.not_lt_zero _)⟩, T6⟩
          case round =>
            obtain ⟨b, hb, rfl, J2, T7⟩ := hrel
            have hc0' := (blk_cell T7.out.box 0)
            have hc1' := (blk_cell T7.out.box 1)
            simp at hc0' hc1'
            by_cases hblt : b < D
            · have hcab := (blk_cell T7.out.blk (a * 60 + b)).trans (tcells_get _ (by omega) (by omega))
              have hcaa := (blk_cell T7.out.blk (a * 60 + a)).trans (tcells_get _ (by omega) (by omega))
              have hcell0 := (blk_cell T7.out.blk (0 * 60 + 0)).trans (tcells_get (fun (x y : Nat) => (prs l x y : Int)) (x := 0) (y := 0) (by omega) (by omega))
              have hcell1 := (blk_cell T7.out.blk (0 * 60 + 1)).trans (tcells_get (fun (x y : Nat) => (prs l x y : Int)) (x := 0) (y := 1) (by omega) (by omega))
              have e0 : ((prs l ((0 : Nat) : Int) ((0 : Nat) : Int) : Nat) : Int) = r0 := HR0.out.symm
              have e1 : ((prs l ((0 : Nat) : Int) ((1 : Nat) : Int) : Nat) : Int) = r1 := HR1.out.symm
              rw [e0] at hcell0
              rw [e1] at hcell1
              rw [show 0 * 60 + 0 = 0 from rfl] at hcell0
              rw [show 0 * 60 + 1 = 1 from rfl] at hcell1
              clear e0 e1
              obtain ⟨v, hv⟩ : ∃ v, v = (prs l (a : Int) (b : Int) : Int) := ⟨_, rfl⟩
              rw [← hv] at hcab
              have HV := Aside0.mk hv
              clear hv
              by_cases hab : a = b
              · subst hab
                clear hcaa
                by_cases hvr : v = r0
                · have J3 : Aside0 (∀ y, y < a + 1 → (prs l (a : Int) (y : Int) : Int) = if a = y then (prs l 0 0 : Int) else (prs l 0 1 : Int)) := ⟨fun y hy => by
                    by_cases hyb : y = a
                    · subst hyb; rw [if_pos rfl, ← HV.out, hvr, HR0.out]
                    · exact J2.out y (by omega)⟩
                  subst hvr
                  have hn : (v != v) = false := by simp
                  go_wp2_with fail
                  go_quiet (fail)
                  go_wp2
                  go_roundw
                  case rel => exact ⟨a + 1, by omega, by go_num, J3, ⟨T7.out.drewN _⟩⟩
                  case measure => simp [intOf]; omega
                · have hn : (v != r0) = true := by simpa using hvr
                  have hn2 : (v == r0) = false := by simpa using hvr
                  have HN : Aside0 (checkR D l = (0, 0, false)) := ⟨checkR_bal (fun hB => by
                    have h9 := hB a hblt a hblt
                    rw [if_pos rfl, ← HV.out, ← HR0.out] at h9
                    exact hvr h9)⟩
                  clear hvr
                  go_wp2_with fail
                  go_quiet (fail)
                  go_wp2
                  go_ret3
                  exact ⟨by rw [HN.out]; rfl, pw_below_drewN T7.out.bel _⟩
              · have hab2 : ((a : Int) == (b : Int)) = false := by simp; omega
                have hab3 : ((a : Int) != (b : Int)) = true := by simp; omega
                by_cases hvr : v = r1
                · have J3 : Aside0 (∀ y, y < b + 1 → (prs l (a : Int) (y : Int) : Int) = if a = y then (prs l 0 0 : Int) else (prs l 0 1 : Int)) := ⟨fun y hy => by
                    by_cases hyb : y = b
                    · subst hyb; rw [if_neg hab, ← HV.out, hvr, HR1.out]
                    · exact J2.out y (by omega)⟩
                  subst hvr
                  have HAB := Aside0.mk hab
                  clear hab
                  go_wp2_with fail
                  go_quiet (fail)
                  go_wp2
                  go_roundw
                  case rel => exact ⟨b + 1, by omega, by go_num, J3, ⟨T7.out.drewN _⟩⟩
                  case measure => simp [intOf]; omega
                · have hn : (v != r1) = true := by simpa using hvr
                  have hn2 : (v == r1) = false := by simpa using hvr
                  have HN : Aside0 (checkR D l = (0, 0, false)) := ⟨checkR_bal (fun hB => by
                    have h9 := hB a halt b hblt
                    rw [if_neg hab, ← HV.out, ← HR1.out] at h9
                    exact hvr h9)⟩
                  have HAB := Aside0.mk hab
                  clear hvr hab
                  go_wp2_with fail
                  go_quiet (fail)
                  go_wp2
                  go_ret3
                  exact ⟨by rw [HN.out]; rfl, pw_below_drewN T7.out.bel _⟩
            · have J3 : Aside0 (∀ x, x < a + 1 → ∀ y, y < D → (prs l (x : Int) (y : Int) : Int) = if x = y then (prs l 0 0 : Int) else (prs l 0 1 : Int)) := ⟨fun x hx y hy => by
                by_cases hxa : x = a
                · subst hxa; exact J2.out y (by omega)
                · exact J1.out x (by omega) y hy⟩
              clear J1 J2
              go_wp2
              go_roundw
              case rel => exact ⟨a + 1, by omega, by go_num, J3, T7⟩
              case measure => simp [intOf]; omega
        · have HN : Aside0 (checkR D l = (r0, r1, decide (0 < r1))) := ⟨by
            unfold checkR
            rw [if_pos ⟨HF.out, fun x hx y hy => J1.out x (by rw [Int.toNat_natCast] at hx; omega) y (by rw [Int.toNat_natCast] at hy; omega)⟩, HR0.out, HR1.out]⟩
          clear J1
          have hcell0 := (blk_cell T6.out.blk (0 * 60 + 0)).trans (tcells_get (fun (x y : Nat) => (prs l x y : Int)) (x := 0) (y := 0) (by omega) (by omega))
          have hcell1 := (blk_cell T6.out.blk (0 * 60 + 1)).trans (tcells_get (fun (x y : Nat) => (prs l x y : Int)) (x := 0) (y := 1) (by omega) (by omega))
          have e0 : ((prs l ((0 : Nat) : Int) ((0 : Nat) : Int) : Nat) : Int) = r0 := HR0.out.symm
          have e1 : ((prs l ((0 : Nat) : Int) ((1 : Nat) : Int) : Nat) : Int) = r1 := HR1.out.symm
          rw [e0] at hcell0
          rw [e1] at hcell1
          rw [show 0 * 60 + 0 = 0 from rfl] at hcell0
          rw [show 0 * 60 + 1 = 1 from rfl] at hcell1
          clear e0 e1
          go_wp2_with fail
          go_quiet (fail)
          go_wp2
          go_ret3
          exact ⟨by rw [HN.out]; rfl, pw_below_drewN T6.out.bel _⟩

def tegularef07_Check.f (a0_0 : Int) (l0_1 : List (List Int)) : Option (Int × Int × Bool) := some (checkR a0_0 l0_1)
theorem tegularef07_Check.calls (a0_0 : Int) (A0_1 : Option Addr) (c0_1 : Nat) (l0_1 : List (List Int)) (r1 : Int) (r2 : Int) (r3 : Bool) (w : World) (hr0_1 : Kd.C (Kd.slice 3 (Kd.int .i64)) w A0_1 l0_1.length l0_1) (hc0_1 : l0_1.length ≤ c0_1) (h : tegularef07_Check.f a0_0 l0_1 = some (r1, r2, r3)) :
    Calls Try.prog 44 #[.agg #[.int .i64 a0_0, .slice A0_1 l0_1.length c0_1]] w fun e w' => e = .returned (.tuple #[.int .i64 r1, .int .i64 r2, .bool r3]) ∧ Below w.heap.size w w' := by
  have h := Option.some.inj h
  by_cases hs : a0_0 < 2 ∨ 60 < a0_0 ∨ l0_1.length < 1 ∨ 4096 < l0_1.length
  · have h5 := refc_short a0_0 A0_1 c0_1 l0_1 w hr0_1 hc0_1 hs
    have h6 : formedB a0_0 l0_1 = false := by
      cases hb : formedB a0_0 l0_1 with
      | false => rfl
      | true =>
        simp only [formedB, Bool.and_eq_true, decide_eq_true_eq] at hb
        omega
    rw [checkR_no h6] at h
    injection h with h1 h2
    injection h2 with h2 h3
    subst h1 h2 h3
    exact h5
  · obtain ⟨D, rfl⟩ : ∃ D : Nat, a0_0 = (D : Int) := ⟨a0_0.toNat, by omega⟩
    have h5 := refc_main D A0_1 c0_1 l0_1 w hr0_1 hc0_1 (by omega) (by omega) (by omega) (by omega)
    rw [h] at h5
    exact h5
end Go.Proofs.Ytebnladkogkpfaa.Q
