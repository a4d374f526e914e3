import Derived.Test.YtebnladkogkpfaaQ19
import Derived.Test.YtebnladkogkpfaaQ20
import Derived.Test.YtebnladkogkpfaaG15
import Derived.Test.YtebnladkogkpfaaQ23
/-! Plain laws of the layouts: Small's designs are sound, and what Good tells. -/
namespace Go.Proofs.Ytebnladkogkpfaa.Q
open Go.RowKit Go.Proofs.YtebnladkogkpfaaW.PrintWords Go.Proofs.YtebnladkogkpfaaW.PrintLast Go.Proofs.YtebnladkogkpfaaW.PrintMore
open T (prs)
set_option linter.unusedVariables false
set_option linter.unusedSimpArgs false

instance (D : Nat) (l : List (List Int)) : Decidable (T.Bal D l) := by unfold T.Bal; infer_instance
/-- A small sound design. -/
def desOk (D : Int) (l : List (List Int)) : Bool := formedB D l && (decide (T.Bal D.toNat l) && (decide (1 ≤ prs l 0 1) && (decide (4 ≤ headLen l) && (decide (headLen l ≤ 7) && (decide (l.length ≤ 60) && decide (prs l 0 0 ≤ 40))))))
def outOk (o : Option (Int × List (List Int))) : Bool := match o with
  | some x => desOk x.1 x.2
  | none => false
theorem c1 : outOk (tegularef07_Complete.f 500 5 4) = true := by decide +kernel
theorem c2 : outOk (tegularef07_Complete.f 500 6 4) = true := by decide +kernel
theorem c3 : outOk (tegularef07_Complete.f 500 6 5) = true := by decide +kernel
theorem c4 : outOk (tegularef07_Complete.f 500 4 4) = true := by decide +kernel
theorem c5 : outOk (tegularef07_Complete.f 500 5 5) = true := by decide +kernel
theorem c6 : outOk (tegularef06_Projective.f 3) = true := by decide +kernel
theorem c7 : outOk (tegularef07_Complete.f 500 7 5) = true := by decide +kernel
structure SmallOk (x : Int × List (List Int) × Int × Int) : Prop where
  d : desOk x.1 x.2.1 = true
  t : 1 ≤ x.2.2.1 ∧ x.2.2.1 ≤ 5
  s : 0 ≤ x.2.2.2 ∧ x.2.2.2 ≤ 7
theorem small_one {o : Option (Int × List (List Int))} (h : outOk o = true) {t s : Int} (ht : 1 ≤ t ∧ t ≤ 5) (hs : 0 ≤ s ∧ s ≤ 7) : ∃ x, (o.bind fun b => some (b.1, b.2, t, s)) = some x ∧ SmallOk x := by
  cases o with
  | none => cases h
  | some b => exact ⟨_, rfl, h, ht, hs⟩
theorem small_is {a0 : Int} (h : (Lit.int .u16 a0).wf = true) : ∃ x, tegularef21_Small.f 501 a0 = some x ∧ SmallOk x := by
  have hb : 0 ≤ a0 ∧ a0 < 65536 := by
    simp only [Lit.wf, Bool.and_eq_true, decide_eq_true_eq] at h
    have h1 : IntKind.u16.min = 0 := by decide
    have h2 : IntKind.u16.max = 65535 := by decide
    omega
  have e0 : wrap64 a0 = a0 := wrap_small (by omega) (by omega)
  have ed : Int.tdiv a0 16 = a0 / 16 := Int.tdiv_eq_ediv_of_nonneg hb.1
  have ed8 : Int.tdiv a0 8 = a0 / 8 := Int.tdiv_eq_ediv_of_nonneg hb.1
  have ed80 : Int.tdiv a0 80 = a0 / 80 := Int.tdiv_eq_ediv_of_nonneg hb.1
  have em : Int.tmod a0 8 = a0 % 8 := Int.tmod_eq_emod_of_nonneg hb.1
  have ht : 1 ≤ wrap64 (1 + Int.tmod (wrap64 (Int.tdiv a0 16)) 5) ∧ wrap64 (1 + Int.tmod (wrap64 (Int.tdiv a0 16)) 5) ≤ 5 := by
    rw [ed, wrap_small (i := a0 / 16) (by omega) (by omega), Int.tmod_eq_emod_of_nonneg (by omega), wrap_small (by omega) (by omega)]
    omega
  have hs : 0 ≤ Int.tmod (wrap64 (Int.tdiv a0 80)) 8 ∧ Int.tmod (wrap64 (Int.tdiv a0 80)) 8 ≤ 7 := by
    rw [ed80, wrap_small (i := a0 / 80) (by omega) (by omega), Int.tmod_eq_emod_of_nonneg (by omega)]
    omega
  unfold tegularef21_Small.f
  rw [e0]
  generalize hT : wrap64 (1 + Int.tmod (wrap64 (Int.tdiv a0 16)) 5) = tt at ht
  generalize hS : Int.tmod (wrap64 (Int.tdiv a0 80)) 8 = ss at hs
  have hj : ∀ x9 x, tegularef21_Small.j0 (500 + 1) a0 x x9 0 = if x9 = true then ((tegularef07_Complete.f 500 5 4).bind fun b => some (b.1, b.2, tt, ss)) else if x = 3 then ((tegularef07_Complete.f 500 6 4).bind fun b => some (b.1, b.2, tt, ss)) else if x = 4 then ((tegularef07_Complete.f 500 6 5).bind fun b => some (b.1, b.2, tt, ss)) else if x = 5 then ((tegularef07_Complete.f 500 (wrap64 (4 + (Int.tmod (wrap64 (Int.tdiv a0 8)) 2))) (wrap64 (4 + (Int.tmod (wrap64 (Int.tdiv a0 8)) 2)))).bind fun b => some (b.1, b.2, tt, ss)) else if x = 6 then ((tegularef06_Projective.f 3).bind fun b => some (b.1, b.2, tt, ss)) else if x = 7 then ((tegularef07_Complete.f 500 7 5).bind fun b => some (b.1, b.2, tt, ss)) else some (0, [], tt, ss) := by
    intro x9 x
    rw [← hT, ← hS]
    rfl
  rw [show (501 : Nat) = 500 + 1 from rfl]
  simp only [hj, em]
  have hr : a0 % 8 = 0 ∨ a0 % 8 = 1 ∨ a0 % 8 = 2 ∨ a0 % 8 = 3 ∨ a0 % 8 = 4 ∨ a0 % 8 = 5 ∨ a0 % 8 = 6 ∨ a0 % 8 = 7 := by omega
  rcases hr with e | e | e | e | e | e | e | e <;> rw [e]
  · exact small_one c1 ht hs
  · exact small_one c1 ht hs
  · exact small_one c1 ht hs
  · exact small_one c2 ht hs
  · exact small_one c3 ht hs
  · have h8 : Int.tmod (wrap64 (Int.tdiv a0 8)) 2 = a0 / 8 % 2 := by
      rw [ed8, wrap_small (by omega) (by omega), Int.tmod_eq_emod_of_nonneg (by omega)]
    rw [h8]
    have h2 : a0 / 8 % 2 = 0 ∨ a0 / 8 % 2 = 1 := by omega
    rcases h2 with e2 | e2 <;> rw [e2]
    · rw [show wrap64 (4 + 0) = 4 from wrap_small (by decide) (by decide)]; exact small_one c4 ht hs
    · rw [show wrap64 (4 + 1) = 5 from wrap_small (by decide) (by decide)]; exact small_one c5 ht hs
  · exact small_one c6 ht hs
  · exact small_one c7 ht hs
theorem small_good {D : Int} {l : List (List Int)} {t s : Int} (h : SmallOk (D, l, t, s)) : ∃ x, measure D l t s = (x, true) := by
  obtain ⟨hd, ht, hs⟩ := h
  simp only [desOk, Bool.and_eq_true, decide_eq_true_eq] at hd ht hs
  obtain ⟨h1, h2, h3, h4, h5, h6, h7⟩ := hd
  have hc : checkD D l = ((prs l 0 0 : Int), (prs l 0 1 : Int), 0) := by
    unfold checkD
    rw [if_pos h1, T.chk_yes h2 (by omega)]
  unfold measure
  rw [hc, if_pos rfl]
  unfold measD
  have m1 := mul_bd (a := t) (b := (l.length : Int)) (A := 5) (B := 60) (by omega) (by omega) (by omega) (by omega)
  have m2 := mul_bd (a := t * (l.length : Int)) (b := (headLen l : Int) - 3) (A := 300) (B := 4) (by omega) (by omega) (by omega) (by omega)
  have m3 := mul_bd (a := t) (b := (prs l 0 0 : Int)) (A := 5) (B := 60) (by omega) (by omega) (by omega) (by omega)
  rw [if_pos ⟨⟨by omega, by omega, by omega, by omega, by omega, by omega⟩, by omega, by omega, by omega⟩]
  exact ⟨_, rfl⟩

/-- What Good tells of the groups. -/
structure Rows (a0 : Int) (l : List (List Int)) : Prop where
  a : 2 ≤ a0 ∧ a0 ≤ 60
  n : 1 ≤ l.length ∧ l.length ≤ 4096
  len : ∀ g (h : g < l.length), l[g].length = headLen l
  nd : ∀ g (h : g < l.length), l[g].Nodup
  el : ∀ g (h : g < l.length) j (hj : j < l[g].length), 0 ≤ l[g][j] ∧ l[g][j] < a0
theorem rows_of {a0 : Int} {l : List (List Int)} (h : formedB a0 l = true) : Rows a0 l := by
  simp only [formedB, Bool.and_eq_true, decide_eq_true_eq, List.all_eq_true] at h
  obtain ⟨h1, h2, h3, h4, h5, h6⟩ := h
  refine ⟨⟨h1, h2⟩, ⟨h3, h4⟩, fun g hg => (rowB_el (by omega) (h6 _ (List.getElem_mem hg))).1, fun g hg => ?_, fun g hg j hj => (rowB_el (by omega) (h6 _ (List.getElem_mem hg))).2.2 j hj⟩
  have h7 := h6 _ (List.getElem_mem hg)
  simp only [rowB, Bool.and_eq_true, decide_eq_true_eq] at h7
  exact (incFrom_lt h7.2).2.imp (fun h e => by omega)
theorem bal_of {a0 : Int} {l : List (List Int)} (hf : formedB a0 l = true) (h : (checkD a0 l).2.2 = 0) : T.Bal a0.toNat l ∧ 1 ≤ prs l 0 1 := by
  unfold checkD at h
  rw [if_pos hf] at h
  unfold T.chk at h
  split at h
  · assumption
  · cases h
theorem on_count {a0 : Int} {l : List (List Int)} (h : Rows a0 l) (d : Int) : ∀ m, m ≤ l.length → prs (l.take m) d d = (T.onUpto l m d).length := by
  intro m
  induction m with
  | zero => intro _; simp [prs, T.onUpto]
  | succ m ih =>
    intro hm
    have hlt : m < l.length := by omega
    rw [T.prs_take l m hlt, ih (by omega), T.onUpto_succ, List.length_append, List.getD_eq_getElem?_getD, List.getElem?_eq_getElem hlt]
    simp only [Option.getD_some]
    by_cases hd : d ∈ l[m]
    · rw [if_pos hd, (h.nd m hlt).count, if_pos hd]; rfl
    · rw [if_neg hd, (h.nd m hlt).count, if_neg hd]; rfl
theorem on_all {a0 : Int} {l : List (List Int)} (h : Rows a0 l) (d : Int) : prs l d d = (T.onUpto l l.length d).length := by
  have := on_count h d l.length (Nat.le_refl _)
  rwa [List.take_length] at this
theorem on_r {a0 : Int} {l : List (List Int)} (h : Rows a0 l) (hb : T.Bal a0.toNat l) {d : Int} (h0 : 0 ≤ d) (h1 : d < a0) : (T.onUpto l l.length d).length = prs l 0 0 := by
  rw [← on_all h]
  have := hb d.toNat (by omega) d.toNat (by omega)
  rw [if_pos rfl, Int.toNat_of_nonneg h0] at this
  omega
theorem on_next {l : List (List Int)} {m : Nat} (hm : m < l.length) (d : Int) : (T.onUpto l (m + 1) d).length = (T.onUpto l m d).length + if d ∈ l[m] then 1 else 0 := by
  rw [T.onUpto_succ, List.length_append, List.getD_eq_getElem?_getD, List.getElem?_eq_getElem hm]
  simp only [Option.getD_some]
  split <;> rfl

theorem has_loop (g : List Int) (d : Int) (hg : g.length ≤ 60) : ∀ n j, g.length - j = n → j ≤ g.length → Ev (fun k => tegularef06_Has.l0 k g d (j : Int)) (decide (d ∈ g.drop j)) := by
  intro n
  induction n with
  | zero =>
    intro j hn hj
    rw [List.drop_eq_nil_of_le (by omega)]
    refine Ev.step (f := fun _ => some false) (fun k => ?_) (by simpa using Ev.now false)
    simp only [tegularef06_Has.l0]
    rw [if_neg (by omega)]
  | succ n ih =>
    intro j hn hj
    have hlt : j < g.length := by omega
    rw [List.drop_eq_getElem_cons hlt]
    by_cases he : g[j] = d
    · rw [show decide (d ∈ g[j] :: g.drop (j + 1)) = true from decide_eq_true (by rw [he]; exact List.mem_cons_self ..)]
      refine Ev.step (f := fun _ => some true) (fun k => ?_) (Ev.now _)
      simp only [tegularef06_Has.l0]
      rw [if_pos (by omega), if_pos (by omega), rd_nat hlt, if_pos he]
    · have e : decide (d ∈ g[j] :: g.drop (j + 1)) = decide (d ∈ g.drop (j + 1)) := by
        rw [decide_eq_decide]
        exact ⟨fun h => by rcases List.mem_cons.1 h with h | h; · exact absurd h.symm he
                           · exact h, fun h => List.mem_cons_of_mem _ h⟩
      rw [e]
      refine Ev.step (f := fun k => tegularef06_Has.l0 k g d ((j + 1 : Nat) : Int)) (fun k => ?_) (ih (j + 1) (by omega) (by omega))
      simp only [tegularef06_Has.l0]
      rw [if_pos (by omega), if_pos (by omega), rd_nat hlt, if_neg he, wrap_small (by omega) (by omega)]
      rfl
theorem has_ev (g : List Int) (d : Int) (hg : g.length ≤ 60) : Ev (fun k => tegularef06_Has.f k g d) (decide (d ∈ g)) := by
  have := has_loop g d hg g.length 0 rfl (by omega)
  rwa [List.drop_zero] at this

theorem refhome_loop {a0 : Int} {l : List (List Int)} (h : Rows a0 l) (hw : headLen l ≤ 60) (q d t s : Int) (b : Nat) (hb : b < l.length) : ∀ n i, l.length - i = n → i ≤ l.length →
    Ev (fun k => tegularef21_Home.l0 k (l.length : Int) q (b : Int) d ((T.onUpto l i d).length : Int) ((T.onUpto l (min i b) d).length : Int) (i : Int) a0 l t s) (d, wrap64 (wrap64 (q * ((T.onUpto l l.length d).length : Int)) + ((T.onUpto l b d).length : Int))) := by
  intro n
  induction n with
  | zero =>
    intro i hn hi
    obtain rfl : i = l.length := by omega
    refine Ev.step (f := fun _ => some (d, wrap64 (wrap64 (q * ((T.onUpto l l.length d).length : Int)) + ((T.onUpto l b d).length : Int)))) (fun k => ?_) (Ev.now _)
    simp only [tegularef21_Home.l0]
    rw [if_neg (by omega), Nat.min_eq_right (by omega)]
  | succ n ih =>
    intro i hn hi
    have hlt : i < l.length := by omega
    have h1 := ih (i + 1) (by omega) (by omega)
    have hh := has_ev l[i] d (by rw [h.len i hlt]; exact hw)
    have hn1 := on_next hlt d
    have b1 := T.onUpto_len l i d
    have b2 := T.onUpto_len l (min i b) d
    have hnn := h.n
    refine Ev.step (f := fun k => (tegularef06_Has.f k l[i] d).bind fun t236 => (if t236 = true then (if (i : Int) < (b : Int) then (tegularef21_Home.l0 k (l.length : Int) q (b : Int) d (wrap64 (((T.onUpto l i d).length : Int) + 1)) (wrap64 (((T.onUpto l (min i b) d).length : Int) + 1)) (wrap64 ((i : Int) + 1)) a0 l t s) else (tegularef21_Home.l0 k (l.length : Int) q (b : Int) d (wrap64 (((T.onUpto l i d).length : Int) + 1)) ((T.onUpto l (min i b) d).length : Int) (wrap64 ((i : Int) + 1)) a0 l t s)) else (tegularef21_Home.l0 k (l.length : Int) q (b : Int) d ((T.onUpto l i d).length : Int) ((T.onUpto l (min i b) d).length : Int) (wrap64 ((i : Int) + 1)) a0 l t s))) (fun k => ?_) (Ev.bind hh ?_)
    · simp only [tegularef21_Home.l0]
      rw [if_pos (by omega), if_pos (by omega), if_pos (by omega), rd_L1_nat hlt]
    · rw [wrap_small (i := (i : Int) + 1) (by omega) (by omega), wrap_small (i := ((T.onUpto l i d).length : Int) + 1) (by omega) (by omega), wrap_small (i := ((T.onUpto l (min i b) d).length : Int) + 1) (by omega) (by omega)]
      by_cases hd : d ∈ l[i]
      · rw [if_pos hd] at hn1
        rw [decide_eq_true hd]
        by_cases hib : i < b
        · refine Ev.congr (f := fun k => tegularef21_Home.l0 k (l.length : Int) q (b : Int) d ((T.onUpto l (i + 1) d).length : Int) ((T.onUpto l (min (i + 1) b) d).length : Int) ((i + 1 : Nat) : Int) a0 l t s) (fun k => ?_) h1
          rw [if_pos rfl, if_pos (by omega), Nat.min_eq_left (by omega), Nat.min_eq_left (by omega), hn1]
          rfl
        · refine Ev.congr (f := fun k => tegularef21_Home.l0 k (l.length : Int) q (b : Int) d ((T.onUpto l (i + 1) d).length : Int) ((T.onUpto l (min (i + 1) b) d).length : Int) ((i + 1 : Nat) : Int) a0 l t s) (fun k => ?_) h1
          rw [if_pos rfl, if_neg (by omega), Nat.min_eq_right (by omega), Nat.min_eq_right (by omega), hn1]
          rfl
      · rw [if_neg hd] at hn1
        rw [decide_eq_false hd]
        refine Ev.congr (f := fun k => tegularef21_Home.l0 k (l.length : Int) q (b : Int) d ((T.onUpto l (i + 1) d).length : Int) ((T.onUpto l (min (i + 1) b) d).length : Int) ((i + 1 : Nat) : Int) a0 l t s) (fun k => ?_) h1
        rw [if_neg (by decide)]
        by_cases hib : i < b
        · rw [Nat.min_eq_left (by omega), Nat.min_eq_left (by omega), hn1]; rfl
        · rw [Nat.min_eq_right (by omega), Nat.min_eq_right (by omega), hn1]; rfl

/-- Group g's set b, row q, place pos, when it has them. -/
structure Spot (l : List (List Int)) (n W : Int) (g p : Int) where
  b : Nat
  q : Nat
  j : Nat
  hb : b < l.length
  hj : j < l[b].length
  eb : Int.tmod g n = b
  eq : Int.tdiv g n = q
  ej : Int.tmod (wrap64 (p + wrap64 (Int.tdiv g n))) W = j
theorem spot_of {a0 : Int} {l : List (List Int)} {t s : Int} {x : Nums} (h : Good a0 l t s x) {g p : Int} (hh : hasB x g p = true) :
    ∃ (b q j : Nat) (hb : b < l.length) (hj : j < l[b].length), Int.tmod g (l.length : Int) = b ∧ Int.tdiv g (l.length : Int) = q ∧ (q : Int) < t ∧ g = q * l.length + b ∧ wrap64 (q : Int) = q ∧ j = (p.toNat + q) % headLen l ∧ Int.tmod (wrap64 (p + (q : Int))) (headLen l : Int) = j := by
  have hbd := bds_of h
  obtain ⟨hf, hbal, hok, rfl⟩ := h
  have hr := rows_of hf
  obtain ⟨⟨k1, k2, k3, k4, k5, k6⟩, k7, k8, k9⟩ := hok
  simp only [hasB, decide_eq_true_eq] at hh
  obtain ⟨g0, g1, p0, p1⟩ := hh
  have hn := hr.n
  have em : Int.tmod g (l.length : Int) = g % (l.length : Int) := Int.tmod_eq_emod_of_nonneg g0
  have ed : Int.tdiv g (l.length : Int) = g / (l.length : Int) := Int.tdiv_eq_ediv_of_nonneg g0
  have m0 : 0 ≤ g % (l.length : Int) := Int.emod_nonneg _ (by omega)
  have m1 : g % (l.length : Int) < l.length := Int.emod_lt_of_pos _ (by omega)
  have d0 : 0 ≤ g / (l.length : Int) := Int.ediv_nonneg g0 (by omega)
  have d1 : g / (l.length : Int) < t := Int.ediv_lt_of_lt_mul (by omega) g1
  have hsum : (l.length : Int) * (g / (l.length : Int)) + g % (l.length : Int) = g := Int.mul_ediv_add_emod g _
  have jl : (p.toNat + (g / (l.length : Int)).toNat) % headLen l < headLen l := Nat.mod_lt _ (by omega)
  refine ⟨(g % (l.length : Int)).toNat, (g / (l.length : Int)).toNat, (p.toNat + (g / (l.length : Int)).toNat) % headLen l, by omega, by rw [hr.len _ (by omega)]; exact jl, by omega, by omega, by omega, ?_, wrap_small (by omega) (by omega), rfl, ?_⟩
  · rw [Int.toNat_of_nonneg d0, Int.toNat_of_nonneg m0, Int.mul_comm]
    exact hsum.symm
  · rw [wrap_small (by omega) (by omega), Int.tmod_eq_emod_of_nonneg (by omega)]
    rw [Int.natCast_emod, Int.natCast_add, Int.toNat_of_nonneg p0]
theorem home_is {a0 : Int} {l : List (List Int)} {t s : Int} {x : Nums} (h : Good a0 l t s x) {g p : Int} (hh : hasB x g p = true) {b q j : Nat} (hb : b < l.length) (hj : j < l[b].length) (e1 : Int.tmod g (l.length : Int) = b) (e2 : Int.tdiv g (l.length : Int) = q) (e3 : wrap64 (q : Int) = q) (e4 : Int.tmod (wrap64 (p + (q : Int))) (headLen l : Int) = j) :
    homeN x g p = some (l[b][j], wrap64 (wrap64 ((q : Int) * (prs l 0 0 : Int)) + ((T.onUpto l b l[b][j]).length : Int))) := by
  obtain ⟨hf, hbal, hok, rfl⟩ := h
  have hr := rows_of hf
  have hn := hr.n
  have hlen := hr.len b hb
  have hrk : rd_L1 (T.ranksUpto l l.length) (b : Int) = T.rankRow l b := by
    rw [rd_L1_nat (by rw [T.ranksUpto_len]; exact hb)]
    simp [T.ranksUpto]
  have hrl : (T.rankRow l b).length = l[b].length := by
    simp [T.rankRow, List.getD_eq_getElem?_getD, List.getElem?_eq_getElem hb]
  have hrv : rd (T.rankRow l b) (j : Int) = ((T.onUpto l b l[b][j]).length : Int) := by
    rw [rd_nat (by omega)]
    simp [T.rankRow, List.getD_eq_getElem?_getD, List.getElem?_eq_getElem hb]
  show layout_numbers_home.f a0 l t s (headLen l : Int) (prs l 0 0 : Int) (l.length : Int) (T.ranksUpto l l.length) (T.onAll l a0.toNat) _ _ g p = _
  unfold layout_numbers_home.f
  rw [e1, e2, e3, e4, rd_L1_nat hb, hrk, hrv, rd_nat hj, T.ranksUpto_len]
  rw [if_neg (by omega), if_neg (by omega), if_pos (by omega), if_pos (by omega), if_pos (by omega), if_pos (by omega), if_pos (by omega), if_pos (by omega)]
theorem refis_is {a0 : Int} {l : List (List Int)} {t s : Int} {x : Nums} (h : Good a0 l t s x) (g p : Int) : tegularef21_Is.f a0 l t s g p = some (hasB x g p) := by
  have hbd := bds_of h
  obtain ⟨hf, hbal, hok, rfl⟩ := h
  have hn := (rows_of hf).n
  rw [← has_is hbd]
  show _ = layout_numbers_has.f a0 l t s (headLen l : Int) (prs l 0 0 : Int) (l.length : Int) (T.ranksUpto l l.length) (T.onAll l a0.toNat) _ _ g p
  unfold tegularef21_Is.f layout_numbers_has.f tegularef21_Groups.f layout_numbers_groups.f tegularef21_Width.f
  rw [if_pos (show 0 < (l.length : Int) by omega)]
  rfl
theorem refhome_is {a0 : Int} {l : List (List Int)} {t s : Int} {x : Nums} (h : Good a0 l t s x) {g p : Int} (hh : hasB x g p = true) {b q j : Nat} (hb : b < l.length) (hj : j < l[b].length) (e1 : Int.tmod g (l.length : Int) = b) (e2 : Int.tdiv g (l.length : Int) = q) (e3 : wrap64 (q : Int) = q) (e4 : Int.tmod (wrap64 (p + (q : Int))) (headLen l : Int) = j) :
    Ev (fun k => tegularef21_Home.f k a0 l t s g p) (l[b][j], wrap64 (wrap64 ((q : Int) * (prs l 0 0 : Int)) + ((T.onUpto l b l[b][j]).length : Int))) := by
  obtain ⟨hf, hbal, hok, rfl⟩ := h
  have hr := rows_of hf
  have hn := hr.n
  have hlen := hr.len b hb
  have hel := hr.el b hb j hj
  have hk := hok.1
  have hl := refhome_loop hr (by omega) (q : Int) l[b][j] t s b hb l.length 0 rfl (by omega)
  rw [on_r hr (bal_of hf hbal).1 hel.1 hel.2] at hl
  refine Ev.congr (fun k => ?_) hl
  show tegularef21_Home.f k a0 l t s g p = _
  unfold tegularef21_Home.f tegularef21_Width.f
  rw [if_neg (by omega), if_pos (by omega), if_pos (by omega), if_pos (by omega)]
  simp only [Option.bind_some]
  show (if (headLen l : Int) = 0 then _ else _) = _
  rw [e1, e2, e3, show ((rd_L1 l 0).length : Int) = (headLen l : Int) from rfl, e4, rd_L1_nat hb, rd_nat hj]
  rw [if_neg (by omega), if_pos (by omega), if_pos (by omega)]
  simp [T.onUpto]

end Go.Proofs.Ytebnladkogkpfaa.Q

/-! At and Home of a sound layout are each other's inverse. -/
namespace Go.Proofs.Ytebnladkogkpfaa.Q
open Go.RowKit Go.Proofs.YtebnladkogkpfaaW.PrintWords Go.Proofs.YtebnladkogkpfaaW.PrintLast Go.Proofs.YtebnladkogkpfaaW.PrintMore
open T (prs)
set_option linter.unusedVariables false
set_option linter.unusedSimpArgs false

theorem on_get {l : List (List Int)} {d : Int} {b : Nat} (hb : b < l.length) (hd : d ∈ l[b]) : ∀ m, b < m → (T.onUpto l m d)[(T.onUpto l b d).length]? = some (b : Int) := by
  intro m
  induction m with
  | zero => intro h; omega
  | succ m ih =>
    intro h
    rw [T.onUpto_succ]
    by_cases e : b = m
    · subst e
      rw [List.getElem?_append_right (Nat.le_refl _), Nat.sub_self, List.getD_eq_getElem?_getD, List.getElem?_eq_getElem hb]
      simp only [Option.getD_some]
      rw [if_pos hd]; rfl
    · have h1 := ih (by omega)
      have h2 := (List.getElem?_eq_some_iff.1 h1).1
      rw [List.getElem?_append_left h2]
      exact h1
theorem on_find {l : List (List Int)} {d : Int} {i : Nat} : ∀ m, m ≤ l.length → i < (T.onUpto l m d).length → ∃ (b : Nat) (hb : b < l.length), b < m ∧ d ∈ l[b] ∧ (T.onUpto l b d).length = i := by
  intro m
  induction m with
  | zero => intro _ h; simp [T.onUpto] at h
  | succ m ih =>
    intro hm h
    by_cases h1 : i < (T.onUpto l m d).length
    · obtain ⟨b, hb, h2, h3, h4⟩ := ih (by omega) h1
      exact ⟨b, hb, by omega, h3, h4⟩
    · have hn := on_next (l := l) (m := m) (by omega) d
      by_cases hd : d ∈ l[m]
      · rw [if_pos hd] at hn
        exact ⟨m, by omega, by omega, hd, by omega⟩
      · rw [if_neg hd] at hn
        omega
theorem index_loop (g : List Int) (d : Int) (hg : g.length ≤ 60) {j : Nat} (hj : j < g.length) (hd : g[j] = d) (hnd : g.Nodup) : ∀ n i k, j - i = n → i ≤ j → n < k → slices_Index_int_int.l0 k g d (g.length : Int) (i : Int) = some (j : Int) := by
  intro n
  induction n with
  | zero =>
    intro i k hn hi hk
    obtain rfl : i = j := by omega
    obtain ⟨k, rfl⟩ : ∃ k', k = k' + 1 := ⟨k - 1, by omega⟩
    simp only [slices_Index_int_int.l0]
    rw [if_pos (by omega), if_pos (by omega), if_pos (by omega), rd_nat hj, if_pos hd.symm]
  | succ n ih =>
    intro i k hn hi hk
    obtain ⟨k, rfl⟩ : ∃ k', k = k' + 1 := ⟨k - 1, by omega⟩
    have hne : ¬ d = g[i]'(by omega) := by
      intro e
      exact (List.pairwise_iff_getElem.1 hnd) i j (by omega) hj (by omega) (e.symm.trans hd.symm)
    simp only [slices_Index_int_int.l0]
    rw [if_pos (by omega), if_pos (by omega), if_pos (by omega), rd_nat (by omega), if_neg hne, wrap_small (by omega) (by omega)]
    exact ih (i + 1) k (by omega) (by omega) (by omega)
theorem mod_back {z W : Int} (hW : 0 < W) (hW2 : W ≤ 1000) : Int.tmod (wrap64 (Int.tmod z W + W)) W = z % W := by
  have h0 := Int.emod_nonneg z (show W ≠ 0 by omega)
  have h1 := Int.emod_lt_of_pos z hW
  have hz : Int.tmod z W = z % W ∨ Int.tmod z W = z % W - W := by
    rw [Int.tmod_eq_emod]
    split
    · left; omega
    · right; omega
  rcases hz with e | e <;> rw [e]
  · rw [wrap_small (by omega) (by omega), Int.tmod_eq_emod_of_nonneg (by omega), Int.add_emod_right, Int.emod_emod]
  · rw [show z % W - W + W = z % W by omega, wrap_small (by omega) (by omega), Int.tmod_eq_emod_of_nonneg (by omega), Int.emod_emod]

/-- The bounds that the two laws below use. -/
structure Lim (a0 : Int) (l : List (List Int)) (t s : Int) : Prop where
  rows : Rows a0 l
  bal : T.Bal a0.toNat l
  W : 4 ≤ headLen l ∧ headLen l ≤ 16
  tt : 1 ≤ t ∧ t ≤ 256
  ss : 0 ≤ s ∧ s ≤ 65536
  r : 1 ≤ prs l 0 0 ∧ prs l 0 0 ≤ 65536
  g : t * (l.length : Int) ≤ 4096
  c : t * (prs l 0 0 : Int) + s ≤ 65536
theorem prs_le_diag {a0 : Int} {l : List (List Int)} (h : Rows a0 l) : prs l 0 1 ≤ prs l 0 0 := by
  rw [on_all h]
  have : ∀ m, m ≤ l.length → prs (l.take m) 0 1 ≤ (T.onUpto l m 0).length := by
    intro m
    induction m with
    | zero => intro _; simp [prs, T.onUpto]
    | succ m ih =>
      intro hm
      have hlt : m < l.length := by omega
      have h1 := ih (by omega)
      rw [T.prs_take l m hlt, on_next hlt]
      have e0 := (h.nd m hlt).count (a := 0)
      have e1 := (h.nd m hlt).count (a := 1)
      rw [e0, e1]
      split <;> split <;> omega
  have h2 := this l.length (Nat.le_refl _)
  rwa [List.take_length] at h2
theorem lim_of {a0 : Int} {l : List (List Int)} {t s : Int} {x : Nums} (h : Good a0 l t s x) : Lim a0 l t s := by
  obtain ⟨hf, hbal, hok, rfl⟩ := h
  have hr := rows_of hf
  have hb := bal_of hf hbal
  have hd := prs_le_diag hr
  obtain ⟨⟨k1, k2, k3, k4, k5, k6⟩, k7, k8, k9⟩ := hok
  have hp : (prs l 0 0 : Int) ≤ t * (prs l 0 0 : Int) := by
    have := Int.mul_le_mul_of_nonneg_right (c := (prs l 0 0 : Int)) k3 (by omega)
    omega
  exact ⟨hr, hb.1, ⟨by omega, by omega⟩, ⟨k3, k4⟩, ⟨k5, k6⟩, ⟨by omega, by omega⟩, k7, k9⟩
theorem sum_lt {q b n t : Nat} (hq : q < t) (hb : b < n) : q * n + b < t * n := by
  have : (q + 1) * n ≤ t * n := Nat.mul_le_mul_right n hq
  rw [Nat.succ_mul] at this
  omega
theorem divs {q b n : Nat} (hb : b < n) : Int.tmod (((q * n + b : Nat)) : Int) (n : Int) = b ∧ Int.tdiv (((q * n + b : Nat)) : Int) (n : Int) = q := by
  rw [Int.tmod_eq_emod_of_nonneg (by omega), Int.tdiv_eq_ediv_of_nonneg (by omega)]
  rw [← Int.natCast_emod, ← Int.natCast_ediv]
  have e1 : (q * n + b) % n = b := by rw [Nat.mul_comm, Nat.mul_add_mod, Nat.mod_eq_of_lt hb]
  have e2 : (q * n + b) / n = q := by
    rw [Nat.mul_comm, Nat.mul_add_div (by omega), Nat.div_eq_of_lt hb, Nat.add_zero]
  rw [e1, e2]; exact ⟨rfl, rfl⟩

theorem sumI {q b n : Nat} {t : Int} (hq : (q : Int) < t) (hb : b < n) : ((q * n + b : Nat) : Int) < t * (n : Int) := by
  have := sum_lt (q := q) (b := b) (n := n) (t := t.toNat) (by omega) hb
  have e : ((q * n + b : Nat) : Int) < ((t.toNat * n : Nat) : Int) := by omega
  rwa [Int.natCast_mul t.toNat, Int.toNat_of_nonneg (by omega)] at e
theorem wrap2 {q r i : Nat} {m : Int} (h : ((q * r + i : Nat) : Int) < m) (hm : m ≤ 65536) : wrap64 (wrap64 ((q : Int) * (r : Int)) + (i : Int)) = ((q * r + i : Nat) : Int) := by
  rw [Int.natCast_add, Int.natCast_mul] at h ⊢
  have h0 : 0 ≤ (q : Int) * (r : Int) := mul_nn (by omega) (by omega)
  rw [wrap_small (i := (q : Int) * (r : Int)) (by omega) (by omega), wrap_small (by omega) (by omega)]
theorem place {j q W : Nat} (hj : j < W) (hW : W ≤ 16) (hq : q ≤ 256) : Int.tmod (wrap64 (((j : Int) - q) % (W : Int) + (q : Int))) (W : Int) = (j : Int) := by
  have p0 : 0 ≤ ((j : Int) - q) % (W : Int) := Int.emod_nonneg _ (by omega)
  have p1 : ((j : Int) - q) % (W : Int) < (W : Int) := Int.emod_lt_of_pos _ (by omega)
  rw [wrap_small (by omega) (by omega), Int.tmod_eq_emod_of_nonneg (by omega), Int.emod_add_emod, show (j : Int) - q + q = j by omega, Int.emod_eq_of_lt (by omega) (by omega)]
theorem place2 {p : Int} {q W : Nat} (h0 : 0 ≤ p) (h1 : p < (W : Int)) : ((((p.toNat + q) % W : Nat) : Int) - q) % (W : Int) = p := by
  rw [Int.natCast_emod, Int.natCast_add, Int.toNat_of_nonneg h0, Int.sub_eq_add_neg, Int.emod_add_emod, show p + (q : Int) + -(q : Int) = p by omega, Int.emod_eq_of_lt h0 h1]
theorem cap_of {a s : Int} (h : a + s ≤ 65536) (hs : 0 ≤ s) : a ≤ 65536 := by omega
theorem le_of {q : Nat} {t : Int} (h : (q : Int) < t) (ht : t ≤ 256) : q ≤ 256 := by omega
theorem div_mod {B : Int} {r : Nat} {t : Int} (hr : 1 ≤ r) (h0 : 0 ≤ B) (h1 : B < t * (r : Int)) : ∃ q i : Nat, (q : Int) < t ∧ i < r ∧ B = ((q * r + i : Nat) : Int) := by
  have m0 : 0 ≤ B % (r : Int) := Int.emod_nonneg _ (by omega)
  have m1 : B % (r : Int) < r := Int.emod_lt_of_pos _ (by omega)
  have d0 : 0 ≤ B / (r : Int) := Int.ediv_nonneg h0 (by omega)
  have d1 : B / (r : Int) < t := Int.ediv_lt_of_lt_mul (by omega) h1
  have hsum : (r : Int) * (B / (r : Int)) + B % (r : Int) = B := Int.mul_ediv_add_emod B _
  refine ⟨(B / (r : Int)).toNat, (B % (r : Int)).toNat, by omega, by omega, ?_⟩
  rw [Int.natCast_add, Int.natCast_mul, Int.toNat_of_nonneg d0, Int.toNat_of_nonneg m0, Int.mul_comm, hsum]

/-- What At answers, by set b, row q and place j. -/
theorem at_is {a0 : Int} {l : List (List Int)} {t s : Int} {x : Nums} (h : Good a0 l t s x) {q b j : Nat} (hq : (q : Int) < t) (hb : b < l.length) (hj : j < l[b].length) :
    atN x l[b][j] ((q * prs l 0 0 + (T.onUpto l b l[b][j]).length : Nat) : Int) = some (((q * l.length + b : Nat) : Int), ((j : Int) - q) % (headLen l : Int)) := by
  have L := lim_of h
  obtain ⟨hf, hbal, hok, rfl⟩ := h
  have hr := L.rows
  have hel := hr.el b hb j hj
  have hlen := hr.len b hb
  obtain ⟨dn, hdn⟩ : ∃ dn : Nat, l[b][j] = (dn : Int) := ⟨l[b][j].toNat, by omega⟩
  have hmem : l[b][j] ∈ l[b] := List.getElem_mem hj
  have hon := on_get hb hmem l.length hb
  have hr0 := on_r hr L.bal hel.1 hel.2
  have hlt := (List.getElem?_eq_some_iff.1 hon).1
  have hrow : rd_L1 (T.onAll l a0.toNat) l[b][j] = T.onUpto l l.length l[b][j] := by
    rw [hdn, rd_L1_nat (by simp [T.onAll]; omega)]
    simp [T.onAll]
  have hlenOn : (T.onAll l a0.toNat).length = a0.toNat := by simp [T.onAll]
  obtain ⟨i, hi⟩ : ∃ i, i = (T.onUpto l b l[b][j]).length := ⟨_, rfl⟩
  rw [← hi] at hon hlt ⊢
  have hv : rd (T.onUpto l l.length l[b][j]) (i : Int) = (b : Int) := by
    rw [rd_nat hlt]
    exact (List.getElem?_eq_some_iff.1 hon).2
  have hdv := divs (q := q) (b := i) (n := prs l 0 0) (by omega)
  have hn := hr.n
  have hl1 := L.W
  have hix := index_loop l[b] l[b][j] (by omega) hj rfl (hr.nd b hb) j 0 100 rfl (by omega) (by omega)
  have hl2 := L.tt; have hl3 := L.g
  have hg1 : (q : Int) * (l.length : Int) + (b : Int) < t * (l.length : Int) := by
    have := sum_lt (q := q) (b := b) (n := l.length) (t := t.toNat) (by omega) hb
    have e : ((q * l.length + b : Nat) : Int) < ((t.toNat * l.length : Nat) : Int) := by omega
    rw [Int.natCast_add, Int.natCast_mul, Int.natCast_mul, Int.toNat_of_nonneg (by omega)] at e
    exact e
  have hg0 : 0 ≤ (q : Int) * (l.length : Int) := mul_nn (by omega) (by omega)
  show layout_numbers_at.f 100 a0 l t s (headLen l : Int) (prs l 0 0 : Int) (l.length : Int) (T.ranksUpto l l.length) (T.onAll l a0.toNat) _ _ l[b][j] _ = _
  unfold layout_numbers_at.f
  rw [hdv.1, hdv.2, hrow, hv, hlenOn, rd_L1_nat hb]
  unfold slices_Index_int_int.f
  rw [if_neg (by omega), if_pos hel.1, if_pos (by omega), if_pos (by omega), if_pos (by omega), if_pos (by omega), if_pos (by omega)]
  rw [show (0 : Int) = ((0 : Nat) : Int) from rfl, hix]
  simp only [Option.bind_some]
  rw [if_neg (by omega), wrap_small (i := (q : Int)) (by omega) (by omega), wrap_small (i := (j : Int) - q) (by omega) (by omega), mod_back (by omega) (by omega), wrap_small (i := (q : Int) * (l.length : Int)) (by omega) (by omega), wrap_small (by omega) (by omega), Int.natCast_add, Int.natCast_mul]

/-- Home, then At. -/
theorem inv_home {a0 : Int} {l : List (List Int)} {t s : Int} {x : Nums} (h : Good a0 l t s x) {g p : Int} (hh : hasB x g p = true) :
    ∃ d B, homeN x g p = some (d, B) ∧ Ev (fun k => tegularef21_Home.f k a0 l t s g p) (d, B) ∧ (0 ≤ d ∧ d < a0) ∧ (0 ≤ B ∧ B < t * (prs l 0 0 : Int)) ∧ atN x d B = some (g, p) ∧
      ∃ (b q j : Nat) (hb : b < l.length) (hj : j < l[b].length), d = l[b][j] ∧ j = (p.toNat + q) % headLen l ∧ (b : Int) = Int.tmod g (l.length : Int) ∧ (q : Int) = Int.tdiv g (l.length : Int) := by
  have L := lim_of h
  have hp : 0 ≤ p ∧ p < (headLen l : Int) := by
    obtain ⟨_, _, _, rfl⟩ := h
    simp only [hasB, decide_eq_true_eq] at hh
    exact hh.2.2
  obtain ⟨b, q, j, hb, hj, e1, e2, hq, eg, e3, ej, e4⟩ := spot_of h hh
  have hel := L.rows.el b hb j hj
  have hlt := (List.getElem?_eq_some_iff.1 (on_get hb (List.getElem_mem hj) l.length hb)).1
  rw [on_r L.rows L.bal hel.1 hel.2] at hlt
  have hB := sumI hq hlt
  have h1 := home_is h hh hb hj e1 e2 e3 e4
  have h2 := refhome_is h hh hb hj e1 e2 e3 e4
  have h3 := at_is h hq hb hj
  rw [wrap2 hB (cap_of L.c L.ss.1)] at h1 h2
  have ep : ((j : Int) - q) % (headLen l : Int) = p := by
    rw [ej]; exact place2 hp.1 hp.2
  have eg2 : ((q * l.length + b : Nat) : Int) = g := by
    rw [eg, Int.natCast_add, Int.natCast_mul]
  rw [ep, eg2] at h3
  exact ⟨_, _, h1, h2, hel, ⟨Int.natCast_nonneg _, hB⟩, h3, b, q, j, hb, hj, rfl, ej, e1.symm, e2.symm⟩
/-- At, then Home. -/
theorem inv_at {a0 : Int} {l : List (List Int)} {t s : Int} {x : Nums} (h : Good a0 l t s x) {d B : Int} (hd : 0 ≤ d ∧ d < a0) (hB : 0 ≤ B ∧ B < t * (prs l 0 0 : Int)) :
    ∃ g p, hasB x g p = true ∧ atN x d B = some (g, p) ∧ homeN x g p = some (d, B) := by
  have L := lim_of h
  obtain ⟨q, i, hq, hi, rfl⟩ := div_mod L.r.1 hB.1 hB.2
  have hor := on_r L.rows L.bal hd.1 hd.2
  obtain ⟨b, hb, _, hmem, hrank⟩ := on_find (l := l) (d := d) (i := i) l.length (Nat.le_refl _) (by rw [hor]; exact hi)
  obtain ⟨j, hj, hjd⟩ := List.mem_iff_getElem.1 hmem
  have h3 := at_is h hq hb hj
  rw [hjd, hrank] at h3
  have hlen := L.rows.len b hb
  have hjW : j < headLen l := by rw [← hlen]; exact hj
  have hW0 : (0 : Int) < (headLen l : Int) := Int.natCast_pos.2 (by have := L.W; omega)
  have p0 : 0 ≤ ((j : Int) - q) % (headLen l : Int) := Int.emod_nonneg _ (Int.ne_of_gt hW0)
  have p1 : ((j : Int) - q) % (headLen l : Int) < (headLen l : Int) := Int.emod_lt_of_pos _ hW0
  have hg1 := sumI hq hb
  have hh : hasB x ((q * l.length + b : Nat) : Int) (((j : Int) - q) % (headLen l : Int)) = true := by
    obtain ⟨_, _, _, rfl⟩ := h
    exact decide_eq_true ⟨Int.natCast_nonneg _, hg1, p0, p1⟩
  refine ⟨_, _, hh, h3, ?_⟩
  have hdv := divs (q := q) (b := b) (n := l.length) hb
  have hq2 := le_of hq L.tt.2
  have ew : wrap64 (q : Int) = q := wrap_small (by clear h3 hh p0 p1 hg1; omega) (by clear h3 hh p0 p1 hg1; omega)
  have h1 := home_is h hh hb hj hdv.1 hdv.2 ew (place hjW L.W.2 hq2)
  rw [hjd, hrank, wrap2 hB.2 (cap_of L.c L.ss.1)] at h1
  exact h1

end Go.Proofs.Ytebnladkogkpfaa.Q

/-! What the exported functions answer at a sound layout. -/
namespace Go.Proofs.Ytebnladkogkpfaa.Q
open Go.RowKit Go.Proofs.YtebnladkogkpfaaW.PrintWords Go.Proofs.YtebnladkogkpfaaW.PrintLast Go.Proofs.YtebnladkogkpfaaW.PrintMore
open T (prs)
set_option linter.unusedVariables false
set_option linter.unusedSimpArgs false

variable {D : Int} {l : List (List Int)} {t s : Int} {x : Nums}
theorem x_w (h : Good D l t s x) : x.width = (headLen l : Int) := by obtain ⟨_, _, _, rfl⟩ := h; rfl
theorem x_n (h : Good D l t s x) : x.tiles * x.n = t * (l.length : Int) := by obtain ⟨_, _, _, rfl⟩ := h; rfl
theorem x_h (h : Good D l t s x) : x.homes = t * (prs l 0 0 : Int) := by obtain ⟨_, _, _, rfl⟩ := h; rfl
theorem x_c (h : Good D l t s x) : x.cap = t * (prs l 0 0 : Int) + s := by obtain ⟨_, _, _, rfl⟩ := h; rfl
theorem has_iff (h : Good D l t s x) {g p : Int} : hasB x g p = true ↔ 0 ≤ g ∧ g < t * (l.length : Int) ∧ 0 ≤ p ∧ p < (headLen l : Int) := by
  obtain ⟨_, _, _, rfl⟩ := h
  simp only [hasB, decide_eq_true_eq]
theorem homes_nn (h : Good D l t s x) : 0 ≤ t * (prs l 0 0 : Int) ∧ t * (prs l 0 0 : Int) ≤ 65536 := by
  have L := lim_of h
  have h0 : 0 ≤ t * (prs l 0 0 : Int) := mul_nn (by have := L.tt; omega) (Int.natCast_nonneg _)
  have := L.c
  have := L.ss
  omega
theorem groups_nn (h : Good D l t s x) : 1 ≤ t * (l.length : Int) ∧ t * (l.length : Int) ≤ 4096 := by
  have L := lim_of h
  have h0 := Int.mul_le_mul L.tt.1 (show (1 : Int) ≤ (l.length : Int) by have := L.rows.n; omega) (by omega) (by have := L.tt; omega)
  have := L.g
  omega
theorem checkR_is (h : Good D l t s x) : checkR D l = ((prs l 0 0 : Int), (prs l 0 1 : Int), decide (0 < (prs l 0 1 : Int))) := by
  unfold checkR
  rw [if_pos ⟨h.f, (lim_of h).bal⟩]
theorem ref_homes (h : Good D l t s x) : tegularef21_Homes.f D l t s = some (t * (prs l 0 0 : Int)) := by
  unfold tegularef21_Homes.f tegularef07_Check.f
  rw [checkR_is h]
  have := homes_nn h
  simp only [Option.bind_some]
  rw [wrap_small (by omega) (by omega)]
theorem ref_blocks (h : Good D l t s x) : tegularef21_Blocks.f D l t s = some (t * (prs l 0 0 : Int) + s) := by
  unfold tegularef21_Blocks.f
  rw [ref_homes h]
  have := homes_nn h
  have := (lim_of h).ss
  simp only [Option.bind_some]
  rw [wrap_small (by omega) (by omega)]
theorem ref_groups (h : Good D l t s x) : tegularef21_Groups.f D l t s = some (t * (l.length : Int)) := by
  unfold tegularef21_Groups.f
  have := groups_nn h
  rw [wrap_small (by omega) (by omega)]
theorem ref_width (h : Good D l t s x) : tegularef21_Width.f D l t s = some (headLen l : Int) := by
  unfold tegularef21_Width.f
  rw [if_pos (by have := (lim_of h).rows.n; omega)]
  rfl
theorem lay_home (hx : measure D l t s = (x, true)) {g p d B : Int} (hh : hasB x g p = true) (hm : homeN x g p = some (d, B)) : layout_Home.f D l t s g p = some (d, B, 0) := by
  unfold layout_Home.f
  rw [hx, if_pos rfl, has_is (bds_of (good_of hx)), hm]
  simp only [Option.bind_some]
  rw [if_pos hh]
theorem lay_home_no (hx : measure D l t s = (x, true)) {g p : Int} (hh : ¬ hasB x g p = true) : layout_Home.f D l t s g p = some (0, 0, 2) := by
  unfold layout_Home.f
  rw [hx, if_pos rfl, has_is (bds_of (good_of hx))]
  simp only [Option.bind_some]
  rw [if_neg hh]
theorem lay_at (hx : measure D l t s = (x, true)) {d B g p : Int} (hd : 0 ≤ d ∧ d < D) (hB : 0 ≤ B ∧ B < t * (prs l 0 0 : Int)) (hm : atN x d B = some (g, p)) : layout_At.f D l t s d B = some (g, p, 0) := by
  have h := good_of hx
  have hs := (lim_of h).ss
  unfold layout_At.f
  rw [hx, if_pos rfl]
  dsimp only
  rw [x_c h, x_h h, if_neg (by omega), if_neg (by omega), hm]
  rfl
theorem lay_at_spare (hx : measure D l t s = (x, true)) {d B : Int} (hd : 0 ≤ d ∧ d < D) (hB : t * (prs l 0 0 : Int) ≤ B ∧ B < t * (prs l 0 0 : Int) + s) : layout_At.f D l t s d B = some (0, 0, 9) := by
  have h := good_of hx
  have hn := homes_nn h
  unfold layout_At.f
  rw [hx, if_pos rfl]
  dsimp only
  rw [x_c h, x_h h, if_neg (by omega), if_pos (by omega)]
theorem lay_at_no (hx : measure D l t s = (x, true)) {d B : Int} (hd : d < 0 ∨ d ≥ D ∨ B < 0 ∨ B ≥ t * (prs l 0 0 : Int) + s) : layout_At.f D l t s d B = some (0, 0, 2) := by
  have h := good_of hx
  unfold layout_At.f
  rw [hx, if_pos rfl]
  dsimp only
  rw [x_c h, if_pos hd]
theorem same_place (h : Good D l t s x) {g p p' d B B' : Int} (hh : hasB x g p = true) (hh' : hasB x g p' = true) (hm : homeN x g p = some (d, B)) (hm' : homeN x g p' = some (d, B')) : p = p' := by
  have L := lim_of h
  obtain ⟨d1, B1, e1, _, _, _, _, b, q, j, hb, hj, f1, f2, f3, f4⟩ := inv_home h hh
  obtain ⟨d2, B2, e2, _, _, _, _, b2, q2, j2, hb2, hj2, k1, k2, k3, k4⟩ := inv_home h hh'
  obtain rfl : b = b2 := Int.ofNat.inj (f3.trans k3.symm)
  obtain rfl : q = q2 := Int.ofNat.inj (f4.trans k4.symm)
  rw [hm] at e1
  rw [hm'] at e2
  injection e1 with e1
  injection e2 with e2
  injection e1 with e1 _
  injection e2 with e2 _
  have hd : l[b][j] = l[b][j2] := by rw [← f1, ← k1, ← e1, ← e2]
  have hjj : j = j2 := by
    rcases Nat.lt_trichotomy j j2 with c | c | c
    · exact absurd hd ((List.pairwise_iff_getElem.1 (L.rows.nd b hb)) j j2 hj hj2 c)
    · exact c
    · exact absurd hd.symm ((List.pairwise_iff_getElem.1 (L.rows.nd b hb)) j2 j hj2 hj c)
  have p1 := (has_iff h).1 hh
  have p2 := (has_iff h).1 hh'
  have r1 := place2 (q := q) p1.2.2.1 p1.2.2.2
  have r2 := place2 (q := q) p2.2.2.1 p2.2.2.2
  rw [← f2, hjj, k2, r2] at r1
  exact r1.symm
/-- The list of what lies on one disk. -/
theorem disk_is (h : Good D l t s x) {d : Int} (hd : 0 ≤ d ∧ d < D) : ∀ n : Nat, (n : Int) ≤ t * (prs l 0 0 : Int) → ∃ L, diskL x d n = some L ∧ L.length = n ∧ ∀ i (hi : i < L.length), hasB x L[i].f0 L[i].f1 = true ∧ homeN x L[i].f0 L[i].f1 = some (d, (i : Int)) ∧ atN x d (i : Int) = some (L[i].f0, L[i].f1) := by
  intro n
  induction n with
  | zero => intro _; exact ⟨[], rfl, rfl, fun i hi => absurd hi (Nat.not_lt_zero _)⟩
  | succ n ih =>
    intro hn
    obtain ⟨L, h1, h2, h3⟩ := ih (by omega)
    obtain ⟨g, p, k1, k2, k3⟩ := inv_at h hd (B := (n : Int)) ⟨by omega, by omega⟩
    refine ⟨L ++ [⟨g, p⟩], by simp only [diskL, h1, k2, Option.bind_some], by rw [List.length_append, h2]; rfl, fun i hi => ?_⟩
    by_cases c : i < L.length
    · rw [List.getElem_append_left c]
      exact h3 i c
    · have e : i = L.length := by rw [List.length_append] at hi; simp only [List.length_cons, List.length_nil] at hi; omega
      subst e
      rw [List.getElem_append_right (Nat.le_refl _)]
      simp only [Nat.sub_self, List.getElem_cons_zero, h2]
      exact ⟨k1, k3, k2⟩
theorem lay_disk (hx : measure D l t s = (x, true)) {d : Int} (hd : 0 ≤ d ∧ d < D) : ∃ L, layout_OnDisk.f D l t s d = some (L, 0) ∧ (L.length : Int) = t * (prs l 0 0 : Int) ∧ ∀ i (hi : i < L.length), hasB x L[i].f0 L[i].f1 = true ∧ homeN x L[i].f0 L[i].f1 = some (d, (i : Int)) ∧ atN x d (i : Int) = some (L[i].f0, L[i].f1) := by
  have h := good_of hx
  have hn := homes_nn h
  obtain ⟨L, h1, h2, h3⟩ := disk_is h hd (t * (prs l 0 0 : Int)).toNat (by omega)
  refine ⟨L, ?_, by omega, h3⟩
  unfold layout_OnDisk.f
  rw [hx, if_pos rfl]
  dsimp only
  rw [if_neg (by omega), x_h h, h1]
  rfl

end Go.Proofs.Ytebnladkogkpfaa.Q
