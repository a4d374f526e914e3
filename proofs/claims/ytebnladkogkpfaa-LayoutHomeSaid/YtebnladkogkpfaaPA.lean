import Derived.Test.YtebnladkogkpfaaQ19
import Derived.Test.YtebnladkogkpfaaQ20
import Derived.Test.YtebnladkogkpfaaG15
/-! Plain laws of the layouts: Small's designs are sound, and what Good tells. -/
namespace Go.Proofs.Ytebnladkogkpfaa.Q
open Go.RowKit Go.Proofs.YtebnladkogkpfaaW.PrintWords Go.Proofs.YtebnladkogkpfaaW.PrintLast Go.Proofs.YtebnladkogkpfaaW.PrintMore
open T (prs)
set_option linter.unusedVariables false
set_option linter.unusedSimpArgs false

instance (D : Nat) (l : List (List Int)) : Decidable (T.Bal D l) := by unfold T.Bal; infer_instance
/-- A small sound design. -/
def desOk (D : Int) (l : List (List Int)) : Bool := formedB D l && (decide (T.Bal D.toNat l) && (decide (1 ≤ prs l 0 1) && (decide (4 ≤ headLen l) && (decide (headLen l ≤ 7) && (decide (l.length ≤ 60) && decide (prs l 0 0 ≤ 60))))))
def outOk (o : Option (Int × List (List Int))) : Bool := match o with
  | some x => desOk x.1 x.2
  | none => false
theorem c1 : outOk (tegularef07_Complete.f 500 5 4) = true := by decide +kernel
theorem c2 : outOk (tegularef07_Complete.f 500 6 4) = true := by decide +kernel
theorem c3 : outOk (tegularef07_Complete.f 500 6 5) = true := by decide +kernel
theorem c4 : outOk (tegularef07_Complete.f 500 4 4) = true := by decide +kernel
theorem c5 : outOk (tegularef07_Complete.f 500 5 5) = true := by decide +kernel
theorem c6 : outOk (tegularef06_Projective.f 3) = true := by decide +kernel
theorem c7 : outOk (tegularef07_Complete.f 500 7 5) = true := by decide +kernel
structure SmallOk (x : Int × List (List Int) × Int × Int) : Prop where
  d : desOk x.1 x.2.1 = true
  t : 1 ≤ x.2.2.1 ∧ x.2.2.1 ≤ 5
  s : 0 ≤ x.2.2.2 ∧ x.2.2.2 ≤ 7
theorem small_one {o : Option (Int × List (List Int))} (h : outOk o = true) {t s : Int} (ht : 1 ≤ t ∧ t ≤ 5) (hs : 0 ≤ s ∧ s ≤ 7) : ∃ x, (o.bind fun b => some (b.1, b.2, t, s)) = some x ∧ SmallOk x := by
  cases o with
  | none => cases h
  | some b => exact ⟨_, rfl, h, ht, hs⟩
theorem small_is {a0 : Int} (h : (Lit.int .u16 a0).wf = true) : ∃ x, tegularef21_Small.f 501 a0 = some x ∧ SmallOk x := by
  have hb : 0 ≤ a0 ∧ a0 < 65536 := by
    simp only [Lit.wf, Bool.and_eq_true, decide_eq_true_eq] at h
    have h1 : IntKind.u16.min = 0 := by decide
    have h2 : IntKind.u16.max = 65535 := by decide
    omega
  have e0 : wrap64 a0 = a0 := wrap_small (by omega) (by omega)
  have ed : Int.tdiv a0 16 = a0 / 16 := Int.tdiv_eq_ediv_of_nonneg hb.1
  have ed8 : Int.tdiv a0 8 = a0 / 8 := Int.tdiv_eq_ediv_of_nonneg hb.1
  have ed80 : Int.tdiv a0 80 = a0 / 80 := Int.tdiv_eq_ediv_of_nonneg hb.1
  have em : Int.tmod a0 8 = a0 % 8 := Int.tmod_eq_emod_of_nonneg hb.1
  have ht : 1 ≤ wrap64 (1 + Int.tmod (wrap64 (Int.tdiv a0 16)) 5) ∧ wrap64 (1 + Int.tmod (wrap64 (Int.tdiv a0 16)) 5) ≤ 5 := by
    rw [ed, wrap_small (i := a0 / 16) (by omega) (by omega), Int.tmod_eq_emod_of_nonneg (by omega), wrap_small (by omega) (by omega)]
    omega
  have hs : 0 ≤ Int.tmod (wrap64 (Int.tdiv a0 80)) 8 ∧ Int.tmod (wrap64 (Int.tdiv a0 80)) 8 ≤ 7 := by
    rw [ed80, wrap_small (i := a0 / 80) (by omega) (by omega), Int.tmod_eq_emod_of_nonneg (by omega)]
    omega
  unfold tegularef21_Small.f
  rw [e0]
  generalize hT : wrap64 (1 + Int.tmod (wrap64 (Int.tdiv a0 16)) 5) = tt at ht
  generalize hS : Int.tmod (wrap64 (Int.tdiv a0 80)) 8 = ss at hs
  have hj : ∀ x9 x, tegularef21_Small.j0 (500 + 1) a0 x x9 0 = if x9 = true then ((tegularef07_Complete.f 500 5 4).bind fun b => some (b.1, b.2, tt, ss)) else if x = 3 then ((tegularef07_Complete.f 500 6 4).bind fun b => some (b.1, b.2, tt, ss)) else if x = 4 then ((tegularef07_Complete.f 500 6 5).bind fun b => some (b.1, b.2, tt, ss)) else if x = 5 then ((tegularef07_Complete.f 500 (wrap64 (4 + (Int.tmod (wrap64 (Int.tdiv a0 8)) 2))) (wrap64 (4 + (Int.tmod (wrap64 (Int.tdiv a0 8)) 2)))).bind fun b => some (b.1, b.2, tt, ss)) else if x = 6 then ((tegularef06_Projective.f 3).bind fun b => some (b.1, b.2, tt, ss)) else if x = 7 then ((tegularef07_Complete.f 500 7 5).bind fun b => some (b.1, b.2, tt, ss)) else some (0, [], tt, ss) := by
    intro x9 x
    rw [← hT, ← hS]
    rfl
  rw [show (501 : Nat) = 500 + 1 from rfl]
  simp only [hj, em]
  have hr : a0 % 8 = 0 ∨ a0 % 8 = 1 ∨ a0 % 8 = 2 ∨ a0 % 8 = 3 ∨ a0 % 8 = 4 ∨ a0 % 8 = 5 ∨ a0 % 8 = 6 ∨ a0 % 8 = 7 := by omega
  rcases hr with e | e | e | e | e | e | e | e <;> rw [e]
  · exact small_one c1 ht hs
  · exact small_one c1 ht hs
  · exact small_one c1 ht hs
  · exact small_one c2 ht hs
  · exact small_one c3 ht hs
  · have h8 : Int.tmod (wrap64 (Int.tdiv a0 8)) 2 = a0 / 8 % 2 := by
      rw [ed8, wrap_small (by omega) (by omega), Int.tmod_eq_emod_of_nonneg (by omega)]
    rw [h8]
    have h2 : a0 / 8 % 2 = 0 ∨ a0 / 8 % 2 = 1 := by omega
    rcases h2 with e2 | e2 <;> rw [e2]
    · rw [show wrap64 (4 + 0) = 4 from wrap_small (by decide) (by decide)]; exact small_one c4 ht hs
    · rw [show wrap64 (4 + 1) = 5 from wrap_small (by decide) (by decide)]; exact small_one c5 ht hs
  · exact small_one c6 ht hs
  · exact small_one c7 ht hs
theorem small_good {D : Int} {l : List (List Int)} {t s : Int} (h : SmallOk (D, l, t, s)) : ∃ x, measure D l t s = (x, true) := by
  obtain ⟨hd, ht, hs⟩ := h
  simp only [desOk, Bool.and_eq_true, decide_eq_true_eq] at hd ht hs
  obtain ⟨h1, h2, h3, h4, h5, h6, h7⟩ := hd
  have hc : checkD D l = ((prs l 0 0 : Int), (prs l 0 1 : Int), 0) := by
    unfold checkD
    rw [if_pos h1, T.chk_yes h2 (by omega)]
  unfold measure
  rw [hc, if_pos rfl]
  unfold measD
  have m1 := mul_bd (a := t) (b := (l.length : Int)) (A := 5) (B := 60) (by omega) (by omega) (by omega) (by omega)
  have m2 := mul_bd (a := t * (l.length : Int)) (b := (headLen l : Int) - 3) (A := 300) (B := 4) (by omega) (by omega) (by omega) (by omega)
  have m3 := mul_bd (a := t) (b := (prs l 0 0 : Int)) (A := 5) (B := 60) (by omega) (by omega) (by omega) (by omega)
  rw [if_pos ⟨⟨by omega, by omega, by omega, by omega, by omega, by omega⟩, by omega, by omega, by omega⟩]
  exact ⟨_, rfl⟩

/-- What Good tells of the groups. -/
structure Rows (a0 : Int) (l : List (List Int)) : Prop where
  a : 2 ≤ a0 ∧ a0 ≤ 60
  n : 1 ≤ l.length ∧ l.length ≤ 4096
  len : ∀ g (h : g < l.length), l[g].length = headLen l
  nd : ∀ g (h : g < l.length), l[g].Nodup
  el : ∀ g (h : g < l.length) j (hj : j < l[g].length), 0 ≤ l[g][j] ∧ l[g][j] < a0
theorem rows_of {a0 : Int} {l : List (List Int)} (h : formedB a0 l = true) : Rows a0 l := by
  simp only [formedB, Bool.and_eq_true, decide_eq_true_eq, List.all_eq_true] at h
  obtain ⟨h1, h2, h3, h4, h5, h6⟩ := h
  refine ⟨⟨h1, h2⟩, ⟨h3, h4⟩, fun g hg => (rowB_el (by omega) (h6 _ (List.getElem_mem hg))).1, fun g hg => ?_, fun g hg j hj => (rowB_el (by omega) (h6 _ (List.getElem_mem hg))).2.2 j hj⟩
  have h7 := h6 _ (List.getElem_mem hg)
  simp only [rowB, Bool.and_eq_true, decide_eq_true_eq] at h7
  exact (incFrom_lt h7.2).2.imp (fun h e => by omega)
theorem bal_of {a0 : Int} {l : List (List Int)} (hf : formedB a0 l = true) (h : (checkD a0 l).2.2 = 0) : T.Bal a0.toNat l ∧ 1 ≤ prs l 0 1 := by
  unfold checkD at h
  rw [if_pos hf] at h
  unfold T.chk at h
  split at h
  · assumption
  · cases h
theorem on_count {a0 : Int} {l : List (List Int)} (h : Rows a0 l) (d : Int) : ∀ m, m ≤ l.length → prs (l.take m) d d = (T.onUpto l m d).length := by
  intro m
  induction m with
  | zero => intro _; simp [prs, T.onUpto]
  | succ m ih =>
    intro hm
    have hlt : m < l.length := by omega
    rw [T.prs_take l m hlt, ih (by omega), T.onUpto_succ, List.length_append, List.getD_eq_getElem?_getD, List.getElem?_eq_getElem hlt]
    simp only [Option.getD_some]
    by_cases hd : d ∈ l[m]
    · rw [if_pos hd, (h.nd m hlt).count, if_pos hd]; rfl
    · rw [if_neg hd, (h.nd m hlt).count, if_neg hd]; rfl
theorem on_all {a0 : Int} {l : List (List Int)} (h : Rows a0 l) (d : Int) : prs l d d = (T.onUpto l l.length d).length := by
  have := on_count h d l.length (Nat.le_refl _)
  rwa [List.take_length] at this
theorem on_r {a0 : Int} {l : List (List Int)} (h : Rows a0 l) (hb : T.Bal a0.toNat l) {d : Int} (h0 : 0 ≤ d) (h1 : d < a0) : (T.onUpto l l.length d).length = prs l 0 0 := by
  rw [← on_all h]
  have := hb d.toNat (by omega) d.toNat (by omega)
  rw [if_pos rfl, Int.toNat_of_nonneg h0] at this
  omega
theorem on_next {l : List (List Int)} {m : Nat} (hm : m < l.length) (d : Int) : (T.onUpto l (m + 1) d).length = (T.onUpto l m d).length + if d ∈ l[m] then 1 else 0 := by
  rw [T.onUpto_succ, List.length_append, List.getD_eq_getElem?_getD, List.getElem?_eq_getElem hm]
  simp only [Option.getD_some]
  split <;> rfl

theorem has_loop (g : List Int) (d : Int) (hg : g.length ≤ 60) : ∀ n j, g.length - j = n → j ≤ g.length → Ev (fun k => tegularef06_Has.l0 k g d (j : Int)) (decide (d ∈ g.drop j)) := by
  intro n
  induction n with
  | zero =>
    intro j hn hj
    rw [List.drop_eq_nil_of_le (by omega)]
    refine Ev.step (f := fun _ => some false) (fun k => ?_) (by simpa using Ev.now false)
    simp only [tegularef06_Has.l0]
    rw [if_neg (by omega)]
  | succ n ih =>
    intro j hn hj
    have hlt : j < g.length := by omega
    rw [List.drop_eq_getElem_cons hlt]
    by_cases he : g[j] = d
    · rw [show decide (d ∈ g[j] :: g.drop (j + 1)) = true from decide_eq_true (by rw [he]; exact List.mem_cons_self ..)]
      refine Ev.step (f := fun _ => some true) (fun k => ?_) (Ev.now _)
      simp only [tegularef06_Has.l0]
      rw [if_pos (by omega), if_pos (by omega), rd_nat hlt, if_pos he]
    · have e : decide (d ∈ g[j] :: g.drop (j + 1)) = decide (d ∈ g.drop (j + 1)) := by
        rw [decide_eq_decide]
        exact ⟨fun h => by rcases List.mem_cons.1 h with h | h; · exact absurd h.symm he
                           · exact h, fun h => List.mem_cons_of_mem _ h⟩
      rw [e]
      refine Ev.step (f := fun k => tegularef06_Has.l0 k g d ((j + 1 : Nat) : Int)) (fun k => ?_) (ih (j + 1) (by omega) (by omega))
      simp only [tegularef06_Has.l0]
      rw [if_pos (by omega), if_pos (by omega), rd_nat hlt, if_neg he, wrap_small (by omega) (by omega)]
      rfl
theorem has_ev (g : List Int) (d : Int) (hg : g.length ≤ 60) : Ev (fun k => tegularef06_Has.f k g d) (decide (d ∈ g)) := by
  have := has_loop g d hg g.length 0 rfl (by omega)
  rwa [List.drop_zero] at this

theorem refhome_loop {a0 : Int} {l : List (List Int)} (h : Rows a0 l) (hw : headLen l ≤ 60) (q d t s : Int) (b : Nat) (hb : b < l.length) : ∀ n i, l.length - i = n → i ≤ l.length →
    Ev (fun k => tegularef21_Home.l0 k (l.length : Int) q (b : Int) d ((T.onUpto l i d).length : Int) ((T.onUpto l (min i b) d).length : Int) (i : Int) a0 l t s) (d, wrap64 (wrap64 (q * ((T.onUpto l l.length d).length : Int)) + ((T.onUpto l b d).length : Int))) := by
  intro n
  induction n with
  | zero =>
    intro i hn hi
    obtain rfl : i = l.length := by omega
    refine Ev.step (f := fun _ => some (d, wrap64 (wrap64 (q * ((T.onUpto l l.length d).length : Int)) + ((T.onUpto l b d).length : Int)))) (fun k => ?_) (Ev.now _)
    simp only [tegularef21_Home.l0]
    rw [if_neg (by omega), Nat.min_eq_right (by omega)]
  | succ n ih =>
    intro i hn hi
    have hlt : i < l.length := by omega
    have h1 := ih (i + 1) (by omega) (by omega)
    have hh := has_ev l[i] d (by rw [h.len i hlt]; exact hw)
    have hn1 := on_next hlt d
    have b1 := T.onUpto_len l i d
    have b2 := T.onUpto_len l (min i b) d
    have hnn := h.n
    refine Ev.step (f := fun k => (tegularef06_Has.f k l[i] d).bind fun t236 => (if t236 = true then (if (i : Int) < (b : Int) then (tegularef21_Home.l0 k (l.length : Int) q (b : Int) d (wrap64 (((T.onUpto l i d).length : Int) + 1)) (wrap64 (((T.onUpto l (min i b) d).length : Int) + 1)) (wrap64 ((i : Int) + 1)) a0 l t s) else (tegularef21_Home.l0 k (l.length : Int) q (b : Int) d (wrap64 (((T.onUpto l i d).length : Int) + 1)) ((T.onUpto l (min i b) d).length : Int) (wrap64 ((i : Int) + 1)) a0 l t s)) else (tegularef21_Home.l0 k (l.length : Int) q (b : Int) d ((T.onUpto l i d).length : Int) ((T.onUpto l (min i b) d).length : Int) (wrap64 ((i : Int) + 1)) a0 l t s))) (fun k => ?_) (Ev.bind hh ?_)
    · simp only [tegularef21_Home.l0]
      rw [if_pos (by omega), if_pos (by omega), if_pos (by omega), rd_L1_nat hlt]
    · rw [wrap_small (i := (i : Int) + 1) (by omega) (by omega), wrap_small (i := ((T.onUpto l i d).length : Int) + 1) (by omega) (by omega), wrap_small (i := ((T.onUpto l (min i b) d).length : Int) + 1) (by omega) (by omega)]
      by_cases hd : d ∈ l[i]
      · rw [if_pos hd] at hn1
        rw [decide_eq_true hd]
        by_cases hib : i < b
        · refine Ev.congr (f := fun k => tegularef21_Home.l0 k (l.length : Int) q (b : Int) d ((T.onUpto l (i + 1) d).length : Int) ((T.onUpto l (min (i + 1) b) d).length : Int) ((i + 1 : Nat) : Int) a0 l t s) (fun k => ?_) h1
          rw [if_pos rfl, if_pos (by omega), Nat.min_eq_left (by omega), Nat.min_eq_left (by omega), hn1]
          rfl
        · refine Ev.congr (f := fun k => tegularef21_Home.l0 k (l.length : Int) q (b : Int) d ((T.onUpto l (i + 1) d).length : Int) ((T.onUpto l (min (i + 1) b) d).length : Int) ((i + 1 : Nat) : Int) a0 l t s) (fun k => ?_) h1
          rw [if_pos rfl, if_neg (by omega), Nat.min_eq_right (by omega), Nat.min_eq_right (by omega), hn1]
          rfl
      · rw [if_neg hd] at hn1
        rw [decide_eq_false hd]
        refine Ev.congr (f := fun k => tegularef21_Home.l0 k (l.length : Int) q (b : Int) d ((T.onUpto l (i + 1) d).length : Int) ((T.onUpto l (min (i + 1) b) d).length : Int) ((i + 1 : Nat) : Int) a0 l t s) (fun k => ?_) h1
        rw [if_neg (by decide)]
        by_cases hib : i < b
        · rw [Nat.min_eq_left (by omega), Nat.min_eq_left (by omega), hn1]; rfl
        · rw [Nat.min_eq_right (by omega), Nat.min_eq_right (by omega), hn1]; rfl

/-- Group g's set b, row q, place pos, when it has them. -/
structure Spot (l : List (List Int)) (n W : Int) (g p : Int) where
  b : Nat
  q : Nat
  j : Nat
  hb : b < l.length
  hj : j < l[b].length
  eb : Int.tmod g n = b
  eq : Int.tdiv g n = q
  ej : Int.tmod (wrap64 (p + wrap64 (Int.tdiv g n))) W = j
theorem spot_of {a0 : Int} {l : List (List Int)} {t s : Int} {x : Nums} (h : Good a0 l t s x) {g p : Int} (hh : hasB x g p = true) :
    ∃ (b q j : Nat) (hb : b < l.length) (hj : j < l[b].length), Int.tmod g (l.length : Int) = b ∧ Int.tdiv g (l.length : Int) = q ∧ (q : Int) < t ∧ g = q * l.length + b ∧ wrap64 (q : Int) = q ∧ j = (p.toNat + q) % headLen l ∧ Int.tmod (wrap64 (p + (q : Int))) (headLen l : Int) = j := by
  have hbd := bds_of h
  obtain ⟨hf, hbal, hok, rfl⟩ := h
  have hr := rows_of hf
  obtain ⟨⟨k1, k2, k3, k4, k5, k6⟩, k7, k8, k9⟩ := hok
  simp only [hasB, decide_eq_true_eq] at hh
  obtain ⟨g0, g1, p0, p1⟩ := hh
  have hn := hr.n
  have em : Int.tmod g (l.length : Int) = g % (l.length : Int) := Int.tmod_eq_emod_of_nonneg g0
  have ed : Int.tdiv g (l.length : Int) = g / (l.length : Int) := Int.tdiv_eq_ediv_of_nonneg g0
  have m0 : 0 ≤ g % (l.length : Int) := Int.emod_nonneg _ (by omega)
  have m1 : g % (l.length : Int) < l.length := Int.emod_lt_of_pos _ (by omega)
  have d0 : 0 ≤ g / (l.length : Int) := Int.ediv_nonneg g0 (by omega)
  have d1 : g / (l.length : Int) < t := Int.ediv_lt_of_lt_mul (by omega) g1
  have hsum : (l.length : Int) * (g / (l.length : Int)) + g % (l.length : Int) = g := Int.mul_ediv_add_emod g _
  have jl : (p.toNat + (g / (l.length : Int)).toNat) % headLen l < headLen l := Nat.mod_lt _ (by omega)
  refine ⟨(g % (l.length : Int)).toNat, (g / (l.length : Int)).toNat, (p.toNat + (g / (l.length : Int)).toNat) % headLen l, by omega, by rw [hr.len _ (by omega)]; exact jl, by omega, by omega, by omega, ?_, wrap_small (by omega) (by omega), rfl, ?_⟩
  · rw [Int.toNat_of_nonneg d0, Int.toNat_of_nonneg m0, Int.mul_comm]
    exact hsum.symm
  · rw [wrap_small (by omega) (by omega), Int.tmod_eq_emod_of_nonneg (by omega)]
    rw [Int.natCast_emod, Int.natCast_add, Int.toNat_of_nonneg p0]
theorem home_is {a0 : Int} {l : List (List Int)} {t s : Int} {x : Nums} (h : Good a0 l t s x) {g p : Int} (hh : hasB x g p = true) {b q j : Nat} (hb : b < l.length) (hj : j < l[b].length) (e1 : Int.tmod g (l.length : Int) = b) (e2 : Int.tdiv g (l.length : Int) = q) (e3 : wrap64 (q : Int) = q) (e4 : Int.tmod (wrap64 (p + (q : Int))) (headLen l : Int) = j) :
    homeN x g p = some (l[b][j], wrap64 (wrap64 ((q : Int) * (prs l 0 0 : Int)) + ((T.onUpto l b l[b][j]).length : Int))) := by
  obtain ⟨hf, hbal, hok, rfl⟩ := h
  have hr := rows_of hf
  have hn := hr.n
  have hlen := hr.len b hb
  have hrk : rd_L1 (T.ranksUpto l l.length) (b : Int) = T.rankRow l b := by
    rw [rd_L1_nat (by rw [T.ranksUpto_len]; exact hb)]
    simp [T.ranksUpto]
  have hrl : (T.rankRow l b).length = l[b].length := by
    simp [T.rankRow, List.getD_eq_getElem?_getD, List.getElem?_eq_getElem hb]
  have hrv : rd (T.rankRow l b) (j : Int) = ((T.onUpto l b l[b][j]).length : Int) := by
    rw [rd_nat (by omega)]
    simp [T.rankRow, List.getD_eq_getElem?_getD, List.getElem?_eq_getElem hb]
  show layout_numbers_home.f a0 l t s (headLen l : Int) (prs l 0 0 : Int) (l.length : Int) (T.ranksUpto l l.length) (T.onAll l a0.toNat) _ _ g p = _
  unfold layout_numbers_home.f
  rw [e1, e2, e3, e4, rd_L1_nat hb, hrk, hrv, rd_nat hj, T.ranksUpto_len]
  rw [if_neg (by omega), if_neg (by omega), if_pos (by omega), if_pos (by omega), if_pos (by omega), if_pos (by omega), if_pos (by omega), if_pos (by omega)]
theorem refis_is {a0 : Int} {l : List (List Int)} {t s : Int} {x : Nums} (h : Good a0 l t s x) (g p : Int) : tegularef21_Is.f a0 l t s g p = some (hasB x g p) := by
  have hbd := bds_of h
  obtain ⟨hf, hbal, hok, rfl⟩ := h
  have hn := (rows_of hf).n
  rw [← has_is hbd]
  show _ = layout_numbers_has.f a0 l t s (headLen l : Int) (prs l 0 0 : Int) (l.length : Int) (T.ranksUpto l l.length) (T.onAll l a0.toNat) _ _ g p
  unfold tegularef21_Is.f layout_numbers_has.f tegularef21_Groups.f layout_numbers_groups.f tegularef21_Width.f
  rw [if_pos (show 0 < (l.length : Int) by omega)]
  rfl
theorem refhome_is {a0 : Int} {l : List (List Int)} {t s : Int} {x : Nums} (h : Good a0 l t s x) {g p : Int} (hh : hasB x g p = true) {b q j : Nat} (hb : b < l.length) (hj : j < l[b].length) (e1 : Int.tmod g (l.length : Int) = b) (e2 : Int.tdiv g (l.length : Int) = q) (e3 : wrap64 (q : Int) = q) (e4 : Int.tmod (wrap64 (p + (q : Int))) (headLen l : Int) = j) :
    Ev (fun k => tegularef21_Home.f k a0 l t s g p) (l[b][j], wrap64 (wrap64 ((q : Int) * (prs l 0 0 : Int)) + ((T.onUpto l b l[b][j]).length : Int))) := by
  obtain ⟨hf, hbal, hok, rfl⟩ := h
  have hr := rows_of hf
  have hn := hr.n
  have hlen := hr.len b hb
  have hel := hr.el b hb j hj
  have hk := hok.1
  have hl := refhome_loop hr (by omega) (q : Int) l[b][j] t s b hb l.length 0 rfl (by omega)
  rw [on_r hr (bal_of hf hbal).1 hel.1 hel.2] at hl
  refine Ev.congr (fun k => ?_) hl
  show tegularef21_Home.f k a0 l t s g p = _
  unfold tegularef21_Home.f tegularef21_Width.f
  rw [if_neg (by omega), if_pos (by omega), if_pos (by omega), if_pos (by omega)]
  simp only [Option.bind_some]
  show (if (headLen l : Int) = 0 then _ else _) = _
  rw [e1, e2, e3, show ((rd_L1 l 0).length : Int) = (headLen l : Int) from rfl, e4, rd_L1_nat hb, rd_nat hj]
  rw [if_neg (by omega), if_pos (by omega), if_pos (by omega)]
  simp [T.onUpto]

end Go.Proofs.Ytebnladkogkpfaa.Q
