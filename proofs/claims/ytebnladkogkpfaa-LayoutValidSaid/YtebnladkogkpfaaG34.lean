import Derived.Test.YtebnladkogkpfaaG47
/-! The walk of design.Check: it counts pairs in a table of 60 x 60. -/
namespace Go.Proofs.Ytebnladkogkpfaa.Q
open Go.RowKit Go.Proofs.YtebnladkogkpfaaW.PrintWords Go.Proofs.YtebnladkogkpfaaW.PrintLast Go.Proofs.YtebnladkogkpfaaW.PrintMore
open T (tabOf prs)
set_option linter.unusedVariables false
set_option linter.unusedSimpArgs false

/-- The cells of a table. -/
def tcells (f : Nat → Nat → Int) : Array Value := ((tabOf f).map (Value.int .i64)).toArray
theorem tcells_zero : Array.replicate 3600 (Value.int .i64 0) = tcells (fun _ _ => 0) := by
  unfold tcells
  rw [T.tabOf_zero, List.map_replicate, List.toArray_replicate]
theorem tcells_get (f : Nat → Nat → Int) {x y : Nat} (hx : x < 60) (hy : y < 60) : (tcells f)[x * 60 + y]? = some (.int .i64 (f x y)) := by
  unfold tcells
  rw [List.getElem?_toArray, List.getElem?_map, T.tabOf_get f hx hy]; rfl
theorem tcells_set (f : Nat → Nat → Int) {x y : Nat} (hx : x < 60) (hy : y < 60) (v : Int) : (tcells f).setIfInBounds (x * 60 + y) (.int .i64 v) = tcells (fun a b => if a = x ∧ b = y then v else f a b) := by
  unfold tcells
  rw [← T.tabOf_set f hx hy, List.setIfInBounds_toArray, List.map_set]
theorem zero78 : ∀ w : World, (zeroValue 78).run Try.prog w = .ok (.agg (Array.replicate 3600 (.int .i64 0))) w := fun _ => by kernel_rfl
/-- A table that is told whole: its block. -/
structure Tb (w0 : World) (bx : Array Value) (B : Nat) (f : Nat → Nat → Int) (wr : World) : Prop where
  blk : wr.heap[B]? = some (.cells (tcells f) 78 (0, 0))
  low : w0.heap.size < B
  bel : Below w0.heap.size w0 wr
  box : wr.heap[w0.heap.size]? = some (.cells bx 26 (0, 0))
theorem Tb.drew {w0 wr : World} {bx : Array Value} {B : Nat} {f : Nat → Nat → Int} (h : Tb w0 bx B f wr) : Tb w0 bx B f wr.drew := ⟨blk_drew h.blk, h.low, below_drew h.bel, blk_drew h.box⟩
theorem Tb.drewN {w0 wr : World} {bx : Array Value} {B : Nat} {f : Nat → Nat → Int} (h : Tb w0 bx B f wr) (n : Nat) : Tb w0 bx B f (wr.drewN n) := ⟨blk_drewN h.blk n, h.low, pw_below_drewN h.bel n, blk_drewN h.box n⟩
theorem Tb.set {w0 wr : World} {bx : Array Value} {B : Nat} {f : Nat → Nat → Int} (h : Tb w0 bx B f wr) {x y : Nat} (hx : x < 60) (hy : y < 60) (v : Int) : Tb w0 bx B (fun a b => if a = x ∧ b = y then v else f a b) (wr.setCell ⟨B, x * 60 + y, none⟩ (.int .i64 v)) :=
  ⟨by rw [← tcells_set f hx hy]; exact blk_set h.blk _ _, h.low, below_set h.bel (Nat.le_of_lt h.low), blk_far h.box (by have := h.low; show w0.heap.size ≠ B; omega) _⟩
theorem run78 {o : Oper} {ev : Operand → Value} {W : World} (ho : o.op = .alloc 78) (Z : Array Value) (hz : (zeroValue 78).run Try.prog W = .ok (.agg Z) W) : (execOp ev o).run Try.prog W = .ok (.value (.pointer (some ⟨W.heap.size, 0, none⟩))) (W.alloc (.cells Z 78)) := by
  simp only [execOp, ho]
  go_simp
theorem alloc78 {ops : Array Oper} {Q : Exit → Act → World → Prop} {rest : List Oper} {o : Oper} {a : Act} {W : World} {N : Tmp} (_hN : o.dst = some N) (hg : o.guard = none) (ho : o.op = .alloc 78)
    (h : ∀ B w2, w2.heap[B]? = some (.cells (tcells fun _ _ => 0) 78 (0, 0)) → W.heap.size ≤ B → Below W.heap.size W w2 → wpList Try.prog ops Q rest (a.put o.dst (.pointer (some ⟨B, 0, none⟩))) w2) : wpList Try.prog ops Q (o :: rest) a W := by
  refine Kd.event_run (w1 := W.alloc (.cells (tcells fun _ _ => 0) 78)) (v := .pointer (some ⟨W.heap.size, 0, none⟩)) hg ?_ ?_
  · have hz := zero78 W
    rw [tcells_zero] at hz
    exact run78 ho _ hz
  · exact h _ _ (blk_new _ _) (Nat.le_refl _) (below_alloc (Below.refl _ _) _)
theorem box_first {bx : Array Value} {B : Nat} {w1 w2 W : World} {f : Nat → Nat → Int} (hb1 : Below (W.alloc (.cells bx 26)).heap.size (W.alloc (.cells bx 26)) w1) (hblk : w2.heap[B]? = some (.cells (tcells f) 78 (0, 0))) (hlt : w1.heap.size ≤ B) (hb2 : Below w1.heap.size w1 w2) : Tb W bx B f w2 := by
  have hs := hb1.size
  rw [World.size_alloc] at hs
  exact ⟨hblk, by omega, below_then (below_then (below_alloc (Below.refl _ _) _) (by rw [World.size_alloc]; omega) hb1) (by omega) hb2, blk_below (blk_below (blk_new _ _) hb1) hb2⟩

/-- What the walk asks of a design that is formed. -/
structure Fm (D : Nat) (l : List (List Int)) : Prop where
  lo : 2 ≤ D
  hi : D ≤ 60
  len : l.length ≤ 4096
  row : ∀ g (h : g < l.length), l[g].length ≤ 60
  el : ∀ g (h : g < l.length) j (hj : j < l[g].length), ∃ x : Nat, x < D ∧ l[g][j] = (x : Int)
set_option maxHeartbeats 8000000 in
set_option maxRecDepth 100000 in
theorem chk_t (k : Nat) (D : Nat) (A0_1 : Option Addr) (c0_1 : Nat) (l0_1 : List (List Int)) (w : World) (hr0_1 : Kd.C (Kd.slice 3 (Kd.int .i64)) w A0_1 l0_1.length l0_1) (hc0_1 : l0_1.length ≤ c0_1) (h : design_formed.f k D l0_1 = some true) (hF : Fm D l0_1) :
    Calls Try.prog 34 #[.agg #[.int .i64 D, .slice A0_1 l0_1.length c0_1]] w fun e w' => e = .returned (.tuple #[.int .i64 (T.chk D l0_1).1, .int .i64 (T.chk D l0_1).2.1, .int .i64 (T.chk D l0_1).2.2]) ∧ Below w.heap.size w w' := by
  have hu26 := Try.underlying26
  have HR0_1 := Aside0.mk hr0_1
  have HC0_1 := Aside0.mk hc0_1
  have H := Aside0.mk h
  have HF := Aside0.mk hF
  have hll := hF.len
  clear hr0_1 hc0_1 h hF
  go_enter Try.func34, Try.ntmps34
  go_wp2_with fail
  refine (design_formed.calls k D A0_1 c0_1 l0_1 true _ (Kd.C_alloc HR0_1.out _) HC0_1.out H.out).mono ?_
  rintro e w1 ⟨rfl, hb1⟩
  have HB := Aside0.mk hb1
  clear hb1
  go_wp2_with ((with_reducible refine gate_dst (N := 5) rfl ?_); refine alloc78 (N := 5) rfl rfl rfl ?_; intro B w2 hblk hlt hb2; have T0 := Aside0.mk (box_first HB.out hblk hlt hb2); clear hblk hlt hb2 HB; have hcl := (blk_cell T0.out.box 1); simp at hcl)
  go_loopw [23] (fun i wr => ∃ g : Nat, g ≤ l0_1.length ∧ i = .int .i64 g ∧ Aside0 (Tb w #[.int .i64 D, .slice A0_1 l0_1.length c0_1] B (T.part l0_1 [] g 0 0) wr)) (fun i _ => l0_1.length - (intOf i).toNat)
  case atStart => exact ⟨0, Nat.zero_le _, rfl, ⟨by rw [T.part_zero]; exact T0.out⟩⟩
  case round =>
    obtain ⟨g, hg, rfl, T1⟩ := hrel
    by_cases hlt : g < l0_1.length
    · obtain ⟨ad, A1, c1, e1, hx1, hl1, hi1⟩ := at_L1 HR0_1.out (g : Int) (by omega) (by omega)
      subst e1
      replace hx1 := pw_cell_below T1.out.bel hx1
      rw [rd_L1_nat hlt] at hx1 hl1 hi1
      rw [Int.toNat_natCast] at hx1
      have HI1 := Aside0.mk hi1
      have hrow := HF.out.row g hlt
      clear hi1
      have T2 : Aside0 (Tb w #[.int .i64 D, .slice (some ad) l0_1.length c0_1] B (T.part l0_1 l0_1[g] g 0 0) wr) := ⟨by rw [T.part_start _ _ []]; exact T1.out⟩
      clear T1
      go_wp2_with fail
      go_loopw [29] (fun i wr => ∃ j : Nat, j ≤ l0_1[g].length ∧ i = .int .i64 j ∧ Aside0 (Tb w #[.int .i64 D, .slice (some ad) l0_1.length c0_1] B (T.part l0_1 l0_1[g] g j 0) wr)) (fun i _ => l0_1[g].length - (intOf i).toNat)
      case atStart => exact ⟨0, Nat.zero_le _, rfl, T2⟩
      case round =>
        obtain ⟨j, hj, rfl, T3⟩ := hrel
        by_cases hjlt : j < l0_1[g].length
        · obtain ⟨ad2, e2, hx2⟩ := Kd.at_int HI1.out (j : Int) (by omega) (by omega)
          subst e2
          replace hx2 := pw_cell_below T3.out.bel hx2
          obtain ⟨x, hxD, hxe⟩ := HF.out.el g hlt j hjlt
          rw [rd_nat hjlt, hxe, Int.toNat_natCast] at hx2
          have HXE := Aside0.mk hxe
          clear hxe
          have hD := HF.out.hi
          go_wp2_with fail
          go_loopw [35] (fun i wr => ∃ q : Nat, q ≤ l0_1[g].length ∧ i = .int .i64 q ∧ Aside0 (Tb w #[.int .i64 D, .slice (some ad) l0_1.length c0_1] B (T.part l0_1 l0_1[g] g j q) wr)) (fun i _ => l0_1[g].length - (intOf i).toNat)
          case atStart => exact ⟨0, Nat.zero_le _, rfl, T3⟩
          case round =>
            obtain ⟨q, hq, rfl, T4⟩ := hrel
            by_cases hqlt : q < l0_1[g].length
            · obtain ⟨ad3, e3, hx3⟩ := Kd.at_int HI1.out (q : Int) (by omega) (by omega)
              cases e3
              replace hx3 := pw_cell_below T4.out.bel hx3
              obtain ⟨y, hyD, hye⟩ := HF.out.el g hlt q hqlt
              rw [rd_nat hqlt, hye, Int.toNat_natCast] at hx3
              have HYE := Aside0.mk hye
              clear hye
              have hcell := (blk_cell T4.out.blk (x * 60 + y)).trans (tcells_get _ (by omega) (by omega))
              obtain ⟨v, hv⟩ : ∃ v, v = T.part l0_1 l0_1[g] g j q x y := ⟨_, rfl⟩
              have hvb := T.part_le l0_1 l0_1[g] g j q hll (fun r hr => by obtain ⟨i, hi, rfl⟩ := List.mem_iff_getElem.1 hr; exact HF.out.row i hi) hrow x y
              rw [← hv] at hcell hvb
              have HV := Aside0.mk hv
              clear hv
              have hfr := blk_frozen T4.out.blk (x * 60 + y)
              go_wp2_with fail
              go_region
              go_wp2
              go_roundw
              case rel =>
                exact ⟨q + 1, by omega, by go_num, ⟨by
                  have h5 := (T4.out.set (x := x) (y := y) (by omega) (by omega) (v + 1)).drew
                  have h7 := T.part_inner l0_1 _ g j q hjlt hqlt HXE.out HYE.out
                  rw [← HV.out] at h7
                  rw [h7] at h5
                  exact h5⟩⟩
              case measure => simp [intOf]; omega
            · have T5 : Aside0 (Tb w #[.int .i64 D, .slice (some ad) l0_1.length c0_1] B (T.part l0_1 l0_1[g] g (j + 1) 0) wr) := ⟨by have h6 := T4.out; rw [show q = l0_1[g].length by omega, T.part_row l0_1 _ g j hjlt] at h6; exact h6⟩
              go_wp2
              go_roundw
              case rel =>
                exact ⟨j + 1, by omega, by go_num, T5⟩
              case measure => simp [intOf]; omega
        · have T5 : Aside0 (Tb w #[.int .i64 D, .slice (some ad) l0_1.length c0_1] B (T.part l0_1 [] (g + 1) 0 0) wr) := ⟨by have h6 := T3.out; rw [show j = l0_1[g].length by omega, T.part_list l0_1 g hlt []] at h6; exact h6⟩
          go_wp2
          go_roundw
          case rel =>
            exact ⟨g + 1, by omega, by go_num, T5⟩
          case measure => simp [intOf]; omega
    · have T5 : Aside0 (Tb w #[.int .i64 D, .slice A0_1 l0_1.length c0_1] B (fun (x y : Nat) => (prs l0_1 x y : Int)) wr) := ⟨by have h6 := T1.out; rw [show g = l0_1.length by omega, T.part_all] at h6; exact h6⟩
      clear T1 T0
      have hc0 := (blk_cell T5.out.box 0)
      have hc1 := (blk_cell T5.out.box 1)
      simp at hc0 hc1
      obtain ⟨r0, hr0⟩ : ∃ r0 : Int, r0 = (prs l0_1 0 0 : Int) := ⟨_, rfl⟩
      obtain ⟨r1, hr1⟩ : ∃ r1 : Int, r1 = (prs l0_1 0 1 : Int) := ⟨_, rfl⟩
      have hcell0 : wr.cell? ⟨B, 0, none⟩ = some (.int .i64 r0) := by rw [hr0]; exact (blk_cell T5.out.blk (0 * 60 + 0)).trans (tcells_get _ (x := 0) (y := 0) (by omega) (by omega))
      have hcell1 : wr.cell? ⟨B, 1, none⟩ = some (.int .i64 r1) := by rw [hr1]; exact (blk_cell T5.out.blk (0 * 60 + 1)).trans (tcells_get _ (x := 0) (y := 1) (by omega) (by omega))
      have HR0 := Aside0.mk hr0
      have HR1 := Aside0.mk hr1
      clear hr0 hr1
      go_wp2_with fail
      go_quiet (fail)
      go_wp2_with fail
      have T6 := Aside0.mk (T5.out.drewN nq)
      clear T5
      go_loop [58] (fun i => ∃ a : Nat, a ≤ D ∧ i = .int .i64 a ∧ Aside0 (∀ x, x < a → ∀ y, y < D → (prs l0_1 (x : Int) (y : Int) : Int) = if x = y then (prs l0_1 0 0 : Int) else (prs l0_1 0 1 : Int))) (fun i => D - (intOf i).toNat)
      case atStart => exact ⟨0, Nat.zero_le _, rfl, ⟨fun x hx => absurd hx (Nat.not_lt_zero _)⟩⟩
      case round =>
        obtain ⟨a, ha, rfl, J1⟩ := hrel
        have hD := HF.out.hi
        by_cases halt : a < D
        · go_wp2_with fail
          go_loop [63] (fun i => ∃ b : Nat, b ≤ D ∧ i = .int .i64 b ∧ Aside0 (∀ y, y < b → (prs l0_1 (a : Int) (y : Int) : Int) = if a = y then (prs l0_1 0 0 : Int) else (prs l0_1 0 1 : Int))) (fun i => D - (intOf i).toNat)
          case atStart => exact ⟨0, Nat.zero_le _, rfl, ⟨fun x hx => absurd hx (Nat.not_lt_zero _)⟩⟩
          case round =>
            obtain ⟨b, hb, rfl, J2⟩ := hrel
            by_cases hblt : b < D
            · have hcell := (blk_cell T6.out.blk (a * 60 + b)).trans (tcells_get _ (by omega) (by omega))
              obtain ⟨v, hv⟩ : ∃ v, v = (prs l0_1 (a : Int) (b : Int) : Int) := ⟨_, rfl⟩
              rw [← hv] at hcell
              have HV := Aside0.mk hv
              clear hv
              by_cases hab : a = b
              · subst hab
                by_cases hvr : v = r0
                · have J3 : Aside0 (∀ y, y < a + 1 → (prs l0_1 (a : Int) (y : Int) : Int) = if a = y then (prs l0_1 0 0 : Int) else (prs l0_1 0 1 : Int)) := ⟨fun y hy => by
                    by_cases hyb : y = a
                    · subst hyb; rw [if_pos rfl, ← HV.out, hvr, HR0.out]
                    · exact J2.out y (by omega)⟩
                  subst hvr
                  go_wp2
                  go_round
                  case rel => exact ⟨a + 1, by omega, by go_num, J3⟩
                  case measure => simp [intOf]; omega
                · have hn : (v != r0) = true := by simpa using hvr
                  have hn2 : (v == r0) = false := by simpa using hvr
                  have HN : Aside0 (T.chk D l0_1 = (0, 0, 5)) := ⟨T.chk_no hblt hblt (by rw [if_pos rfl, ← HV.out, ← HR0.out]; exact hvr)⟩
                  clear hvr
                  go_wp2
                  go_ret3
                  exact ⟨by rw [HN.out]; rfl, T6.out.bel⟩
              · have hab2 : ((a : Int) == (b : Int)) = false := by simp; omega
                by_cases hvr : v = r1
                · have J3 : Aside0 (∀ y, y < b + 1 → (prs l0_1 (a : Int) (y : Int) : Int) = if a = y then (prs l0_1 0 0 : Int) else (prs l0_1 0 1 : Int)) := ⟨fun y hy => by
                    by_cases hyb : y = b
                    · subst hyb; rw [if_neg hab, ← HV.out, hvr, HR1.out]
                    · exact J2.out y (by omega)⟩
                  subst hvr
                  have HAB := Aside0.mk hab
                  clear hab
                  go_wp2
                  go_round
                  case rel => exact ⟨b + 1, by omega, by go_num, J3⟩
                  case measure => simp [intOf]; omega
                · have hn : (v != r1) = true := by simpa using hvr
                  have hn2 : (v == r1) = false := by simpa using hvr
                  have HN : Aside0 (T.chk D l0_1 = (0, 0, 5)) := ⟨T.chk_no halt hblt (by rw [if_neg hab, ← HV.out, ← HR1.out]; exact hvr)⟩
                  have HAB := Aside0.mk hab
                  clear hvr hab
                  go_wp2
                  go_ret3
                  exact ⟨by rw [HN.out]; rfl, T6.out.bel⟩
            · have J3 : Aside0 (∀ x, x < a + 1 → ∀ y, y < D → (prs l0_1 (x : Int) (y : Int) : Int) = if x = y then (prs l0_1 0 0 : Int) else (prs l0_1 0 1 : Int)) := ⟨fun x hx y hy => by
                by_cases hxa : x = a
                · subst hxa; exact J2.out y (by omega)
                · exact J1.out x (by omega) y hy⟩
              clear J1 J2
              go_wp2
              go_round
              case rel => exact ⟨a + 1, by omega, by go_num, J3⟩
              case measure => simp [intOf]; omega
        · have HBal : Aside0 (T.Bal D l0_1) := ⟨fun x hx y hy => J1.out x (by omega) y hy⟩
          clear J1
          by_cases hfew : r1 < 1
          · have HN : Aside0 (T.chk D l0_1 = (0, 0, 5)) := ⟨T.chk_few (by rw [← HR1.out]; exact hfew)⟩
            go_wp2
            go_ret3
            exact ⟨by rw [HN.out]; rfl, T6.out.bel⟩
          · have HN : Aside0 (T.chk D l0_1 = (r0, r1, 0)) := ⟨by rw [T.chk_yes HBal.out (by have := HR1.out; omega), HR0.out, HR1.out]⟩
            go_wp2
            go_ret3
            exact ⟨by rw [HN.out]; rfl, T6.out.bel⟩
theorem chk_f (k : Nat) (D : Int) (A0_1 : Option Addr) (c0_1 : Nat) (l0_1 : List (List Int)) (w : World) (hr0_1 : Kd.C (Kd.slice 3 (Kd.int .i64)) w A0_1 l0_1.length l0_1) (hc0_1 : l0_1.length ≤ c0_1) (h : design_formed.f k D l0_1 = some false) :
    Calls Try.prog 34 #[.agg #[.int .i64 D, .slice A0_1 l0_1.length c0_1]] w fun e w' => e = .returned (.tuple #[.int .i64 0, .int .i64 0, .int .i64 5]) ∧ Below w.heap.size w w' := by
  have hu26 := Try.underlying26
  have HR0_1 := Aside0.mk hr0_1
  have HC0_1 := Aside0.mk hc0_1
  have H := Aside0.mk h
  clear hr0_1 hc0_1 h
  go_enter Try.func34, Try.ntmps34
  go_wp2_with fail
  refine (design_formed.calls k D A0_1 c0_1 l0_1 false _ (Kd.C_alloc HR0_1.out _) HC0_1.out H.out).mono ?_
  rintro e w1 ⟨rfl, hb1⟩
  have HB := Aside0.mk (below_then (below_alloc (Below.refl _ _) _) (by rw [World.size_alloc]; omega) hb1)
  clear hb1
  go_wp2
  go_ret3
  exact ⟨rfl, HB.out⟩

theorem incFrom_len {a : Int} : ∀ {g : List Int} {lo : Int}, 0 ≤ lo → incFrom a lo g = true → (lo ≤ a → lo + g.length ≤ a) ∧ (a < lo → g = []) ∧ ∀ j (hj : j < g.length), lo ≤ g[j] ∧ g[j] < a
  | [], lo, _, _ => ⟨fun h => by simpa using h, fun _ => rfl, fun j hj => by simp at hj⟩
  | x :: r, lo, h0, h => by
    simp only [incFrom, Bool.and_eq_true, decide_eq_true_eq] at h
    obtain ⟨h1, h2, h3⟩ := h
    obtain ⟨i1, i2, i3⟩ := incFrom_len (by omega) h3
    refine ⟨fun _ => ?_, fun _ => by omega, fun j hj => ?_⟩
    · have := i1 (by omega)
      rw [List.length_cons]
      omega
    · cases j with
      | zero => exact ⟨h1, h2⟩
      | succ j =>
        have := i3 j (by simpa using hj)
        rw [List.getElem_cons_succ]
        omega
theorem rowB_el {a : Int} {n : Nat} {g : List Int} (h0 : 0 ≤ a) (h : rowB a n g = true) : g.length = n ∧ (g.length : Int) ≤ a ∧ ∀ j (hj : j < g.length), 0 ≤ g[j] ∧ g[j] < a := by
  simp only [rowB, Bool.and_eq_true, decide_eq_true_eq] at h
  have := incFrom_len (Int.le_refl 0) h.2
  exact ⟨h.1, by have := this.1 h0; omega, this.2.2⟩
theorem fm_of {a : Int} {l : List (List Int)} (h : formedB a l = true) : a = (a.toNat : Int) ∧ Fm a.toNat l := by
  simp only [formedB, Bool.and_eq_true, decide_eq_true_eq, List.all_eq_true] at h
  obtain ⟨h1, h2, h3, h4, h5, h6⟩ := h
  refine ⟨by omega, ⟨by omega, by omega, h4, fun g hg => ?_, fun g hg j hj => ?_⟩⟩
  · have := (rowB_el (by omega) (h6 _ (List.getElem_mem hg))).2.1
    omega
  · have := (rowB_el (by omega) (h6 _ (List.getElem_mem hg))).2.2 j hj
    exact ⟨(l[g][j]).toNat, by omega, by omega⟩
/-- What design.Check answers. -/
def checkD (a : Int) (l : List (List Int)) : Int × Int × Int := if formedB a l = true then T.chk a.toNat l else (0, 0, 5)
def design_Check.f (a0_0 : Int) (l0_1 : List (List Int)) : Option (Int × Int × Int) := some (checkD a0_0 l0_1)
theorem design_Check.calls (a0_0 : Int) (A0_1 : Option Addr) (c0_1 : Nat) (l0_1 : List (List Int)) (r1 : Int) (r2 : Int) (r3 : Int) (w : World) (hr0_1 : Kd.C (Kd.slice 3 (Kd.int .i64)) w A0_1 l0_1.length l0_1) (hc0_1 : l0_1.length ≤ c0_1) (h : design_Check.f a0_0 l0_1 = some (r1, r2, r3)) :
    Calls Try.prog 34 #[.agg #[.int .i64 a0_0, .slice A0_1 l0_1.length c0_1]] w fun e w' => e = .returned (.tuple #[.int .i64 r1, .int .i64 r2, .int .i64 r3]) ∧ Below w.heap.size w w' := by
  have h := Option.some.inj h
  obtain ⟨k, hk⟩ := formed_ev a0_0 l0_1
  unfold checkD at h
  cases hb : formedB a0_0 l0_1 with
  | false =>
    rw [hb] at h hk
    rw [if_neg (by decide)] at h
    injection h with h1 h2
    injection h2 with h2 h3
    subst h1 h2 h3
    exact chk_f k a0_0 A0_1 c0_1 l0_1 w hr0_1 hc0_1 hk
  | true =>
    rw [hb] at h hk
    rw [if_pos rfl] at h
    obtain ⟨e, hF⟩ := fm_of hb
    have h5 := chk_t k a0_0.toNat A0_1 c0_1 l0_1 w hr0_1 hc0_1 (by rw [← e]; exact hk) hF
    rw [h, ← e] at h5
    exact h5
end Go.Proofs.Ytebnladkogkpfaa.Q
