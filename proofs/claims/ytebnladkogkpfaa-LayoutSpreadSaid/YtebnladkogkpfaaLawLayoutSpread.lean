/- The row of LayoutSpread holds: the law answers true on every input of its domain, on every machine; no conditions beyond those of the row itself. -/
-- Written by a program of this session (wip/tools/drv.py) for this claim: what the Go functions do, as Lean functions, and the walks.
import Derived.Test.YtebnladkogkpfaaRows
import Derived.Test.YtebnladkogkpfaaQ35
import Derived.WalkKit
import Derived.ProofKit
import Derived.OpenShut
import Derived.ShutString
import Derived.ChangeOld
import Derived.Below
import Derived.SizedLaws
import Derived.Test.YtebnladkogkpfaaPA
/-! LayoutSpread answers true. -/
namespace Go.Proofs.Ytebnladkogkpfaa.Pure
open Go.RowKit Go.Proofs.Ytebnladkogkpfaa.Q Go.Proofs.YtebnladkogkpfaaW.PrintWords Go.Proofs.YtebnladkogkpfaaW.PrintLast
open Go.Proofs.Ytebnladkogkpfaa.T (prs)
set_option linter.unusedVariables false
set_option linter.unusedSimpArgs false

variable {D : Int} {l : List (List Int)} {t s : Int} {x : Nums}
theorem good_any (hd : desOk D l = true) (ht : 1 ≤ t ∧ t ≤ 14) (hs : 0 ≤ s ∧ s ≤ 7) : ∃ x, Q.measure D l t s = (x, true) := by
  simp only [desOk, Bool.and_eq_true, decide_eq_true_eq] at hd ht hs
  obtain ⟨h1, h2, h3, h4, h5, h6, h7⟩ := hd
  have hc : checkD D l = ((prs l 0 0 : Int), (prs l 0 1 : Int), 0) := by
    unfold checkD
    rw [if_pos h1, T.chk_yes h2 (by omega)]
  unfold Q.measure
  rw [hc, if_pos rfl]
  unfold measD
  have m1 := mul_bd (a := t) (b := (l.length : Int)) (A := 14) (B := 60) (by omega) (by omega) (by omega) (by omega)
  have m2 := mul_bd (a := t * (l.length : Int)) (b := (headLen l : Int) - 3) (A := 840) (B := 4) (by omega) (by omega) (by omega) (by omega)
  have m3 := mul_bd (a := t) (b := (prs l 0 0 : Int)) (A := 14) (B := 60) (by omega) (by omega) (by omega) (by omega)
  rw [if_pos ⟨⟨by omega, by omega, by omega, by omega, by omega, by omega⟩, by omega, by omega, by omega⟩]
  exact ⟨_, rfl⟩
theorem piece_is (h : Q.Good D l t s x) {d : Int} (hd : 0 ≤ d ∧ d < D) {e : Nat} (he : e < prs l 0 0) : ∃ j : Nat, ∀ q : Nat, (q : Int) < t → ∃ g, atN x d ((q * prs l 0 0 + e : Nat) : Int) = some (g, ((j : Int) - q) % (headLen l : Int)) := by
  have L := lim_of h
  have hor := on_r L.rows L.bal hd.1 hd.2
  obtain ⟨b, hb, _, hmem, hrank⟩ := on_find (l := l) (d := d) (i := e) l.length (Nat.le_refl _) (by rw [hor]; exact he)
  obtain ⟨j, hj, hjd⟩ := List.mem_iff_getElem.1 hmem
  refine ⟨j, fun q hq => ?_⟩
  have h3 := at_is h hq hb hj
  rw [hjd, hrank] at h3
  exact ⟨_, h3⟩

/-! Each number is as frequent as the next. -/
theorem sub_mod (j q W : Int) : ((j - q) % W - 1) % W = (j - (q + 1)) % W := by
  rw [Int.sub_emod, Int.emod_emod, ← Int.sub_emod]
  congr 1; omega
theorem rot {P : List Int} {T r m W : Nat} (hr : 1 ≤ r) (hT : T = m * W) (hT1 : 1 ≤ T) (hP : P.length = T * r) (h : ∀ e, e < r → ∃ j : Nat, ∀ q : Nat, q < T → P[q * r + e]? = some (((j : Int) - q) % (W : Int))) :
    P.drop r ++ P.take r = P.map (fun v => (v - 1) % (W : Int)) := by
  have hTr : r ≤ T * r := Nat.le_mul_of_pos_left r hT1
  have hget : ∀ e, e < r → ∃ j : Nat, ∀ q : Nat, q < T → ∀ hq : q * r + e < P.length, P[q * r + e] = ((j : Int) - q) % (W : Int) := fun e he => by
    obtain ⟨j, hj⟩ := h e he
    exact ⟨j, fun q hq hlt => by have := hj q hq; rw [List.getElem?_eq_getElem hlt] at this; exact Option.some.inj this⟩
  refine List.ext_getElem (by rw [List.length_append, List.length_drop, List.length_take, List.length_map, Nat.min_eq_left (by omega)]; omega) (fun i h1 h2 => ?_)
  rw [List.length_map] at h2
  rw [List.getElem_map]
  obtain ⟨q, e, he, rfl⟩ : ∃ q e, e < r ∧ i = q * r + e := ⟨i / r, i % r, Nat.mod_lt _ (by omega), by rw [Nat.mul_comm]; exact (Nat.div_add_mod _ _).symm⟩
  have hq : q < T := by
    have : q * r < T * r := by omega
    exact Nat.lt_of_mul_lt_mul_right this
  obtain ⟨j, hj⟩ := hget e he
  rw [hj q hq h2, sub_mod]
  by_cases c : q + 1 < T
  · have h3 : (q + 1) * r + r ≤ T * r := by rw [← Nat.succ_mul]; exact Nat.mul_le_mul_right r (by omega)
    have h4 : (q + 1) * r = q * r + r := Nat.succ_mul q r
    rw [List.getElem_append_left (by rw [List.length_drop]; omega), List.getElem_drop]
    have h5 := hj (q + 1) c (by omega)
    rw [show ((q : Int) + 1) = ((q + 1 : Nat) : Int) from rfl, ← h5]
    congr 1; omega
  · obtain rfl : T = q + 1 := by omega
    have h4 : (q + 1) * r = q * r + r := Nat.succ_mul q r
    rw [List.getElem_append_right (by rw [List.length_drop]; omega), List.getElem_take]
    have h5 := hj 0 (by omega) (by omega)
    have h6 : ((j : Int) - ((q : Int) + 1)) % (W : Int) = ((j : Int) - ((0 : Nat) : Int)) % (W : Int) := by
      have : ((q : Int) + 1) = (m : Int) * (W : Int) := by rw [show ((q : Int) + 1) = ((q + 1 : Nat) : Int) from rfl, hT, Int.natCast_mul]
      rw [this, Int.sub_mul_emod_self_right, Int.natCast_zero, Int.sub_zero]
    rw [h6, ← h5]
    congr 1; rw [List.length_drop]; omega
theorem cnt_step {P : List Int} {r W : Nat} (hW : 1 ≤ W) (hP : P.drop r ++ P.take r = P.map (fun v => (v - 1) % (W : Int))) (hb : ∀ v ∈ P, 0 ≤ v ∧ v < (W : Int)) {p : Nat} (hp : p + 1 < W) : P.count ((p + 1 : Nat) : Int) = P.count (p : Int) := by
  have h1 : P.count (p : Int) = (P.drop r ++ P.take r).count (p : Int) := by
    rw [List.count_append, Nat.add_comm, ← List.count_append, List.take_append_drop]
  rw [h1, hP]
  unfold List.count
  rw [List.countP_map]
  refine List.countP_congr (fun v hv => ?_)
  have := hb v hv
  simp only [Function.comp, beq_iff_eq]
  constructor
  · rintro rfl
    rw [show (((p + 1 : Nat) : Int) - 1) = (p : Int) by omega]
    exact Int.emod_eq_of_lt (by omega) (by omega)
  · intro e
    by_cases c : v = 0
    · subst c
      rw [show ((0 : Int) - 1) = ((W : Int) - 1) + (-1) * (W : Int) by omega, Int.add_mul_emod_self_right, Int.emod_eq_of_lt (by omega) (by omega)] at e
      omega
    · rw [Int.emod_eq_of_lt (by omega) (by omega)] at e
      omega
theorem cnt_lt {P : List Int} (h : ∀ v ∈ P, 0 ≤ v) (C : Nat) : ∀ n : Nat, (∀ p : Nat, p < n → P.count (p : Int) = C) → P.countP (fun v => decide (v < (n : Int))) = n * C := by
  intro n
  induction n with
  | zero => 
    intro _
    rw [Nat.zero_mul, List.countP_eq_zero]
    intro v hv
    have := h v hv
    simp; omega
  | succ n ih =>
    intro hc
    rw [Nat.succ_mul, ← ih (fun p hp => hc p (by omega)), ← hc n (by omega)]
    clear hc ih
    induction P with
    | nil => rfl
    | cons v P ihP =>
      rw [List.countP_cons, List.countP_cons, List.count_cons, ihP (fun u hu => h u (List.mem_cons_of_mem _ hu))]
      have := h v (List.mem_cons_self ..)
      by_cases c1 : v = (n : Int)
      · rw [if_pos (decide_eq_true (by omega)), if_neg (by simp; omega), if_pos (by simp; exact c1)]; omega
      · by_cases c2 : v < (n : Int)
        · rw [if_pos (decide_eq_true (by omega)), if_pos (decide_eq_true c2), if_neg (by simp; exact c1)]; omega
        · rw [if_neg (by simp; omega), if_neg (by simp; omega), if_neg (by simp; exact c1)]; omega
theorem cnt_all {P : List Int} {r W : Nat} (hW : 1 ≤ W) (hP : P.drop r ++ P.take r = P.map (fun v => (v - 1) % (W : Int))) (hb : ∀ v ∈ P, 0 ≤ v ∧ v < (W : Int)) {p : Nat} (hp : p < W) : P.count (p : Int) * W = P.length := by
  have h0 : ∀ p : Nat, p < W → P.count (p : Int) = P.count ((0 : Nat) : Int) := by
    intro p
    induction p with
    | zero => intro _; rfl
    | succ p ih => intro hp; rw [cnt_step hW hP hb hp, ih (by omega)]
  rw [h0 p hp, Nat.mul_comm, ← cnt_lt (fun v hv => (hb v hv).1) _ W h0, List.countP_eq_length]
  intro v hv
  exact decide_eq_true (hb v hv).2

/-! The loops. -/
def F1 (L : List S52) : List Int := L.map (·.f1)
theorem rd52s {L : List S52} {i : Nat} (hi : i < L.length) : rd_T52 L (i : Int) = L[i] := by
  unfold rd_T52; rw [Int.toNat_natCast, List.getD_eq_getElem?_getD, List.getElem?_eq_getElem hi]; rfl
def cntL (P : List Int) (W : Nat) : List Int := (List.range W).map fun p : Nat => ((P.count (p : Int) : Nat) : Int)
theorem cntL_len (P : List Int) (W : Nat) : (cntL P W).length = W := by simp [cntL]
theorem cntL_rd (P : List Int) {W p : Nat} (hp : p < W) : rd (cntL P W) (p : Int) = (P.count (p : Int) : Nat) := by
  rw [rd_nat (by rw [cntL_len]; exact hp)]; simp [cntL]
theorem cntL_set (P : List Int) {W p : Nat} (hp : p < W) : (cntL P W).set p (((P.count (p : Int) : Nat) : Int) + 1) = cntL (P ++ [(p : Int)]) W := by
  refine List.ext_getElem (by rw [List.length_set, cntL_len, cntL_len]) (fun i _ h2 => ?_)
  rw [cntL_len] at h2
  simp only [List.getElem_set, cntL, List.getElem_map, List.getElem_range, List.count_append, List.count_singleton]
  by_cases c : p = i
  · subst c; simp
  · rw [if_neg c, if_neg (by simp; omega)]; simp
theorem spread_l1 (L : List S52) {W : Nat} (hW : W ≤ 16) (hL : L.length ≤ 65536) (h0 : 0 < L.length) (hc : ∀ p : Nat, p < W → (F1 L).count (p : Int) * W = L.length) : ∀ n p, W - p = n → p ≤ W →
    Ev (fun k => tegulalaw21_LayoutSpread.l1 k L 0 (cntL (F1 L) W) (p : Int)) true := by
  intro n
  induction n with
  | zero =>
    intro p e hp
    refine Ev.step (f := fun _ => some true) (fun k => ?_) (Ev.now _)
    simp only [tegulalaw21_LayoutSpread.l1]
    rw [cntL_len, if_neg (by omega), if_pos trivial, decide_eq_true (by omega)]
  | succ n ih =>
    intro p e hp
    have hlt : p < W := by omega
    have h1 := hc p hlt
    have h2 : (((F1 L).count (p : Int) : Nat) : Int) * (W : Int) = (L.length : Int) := by rw [← Int.natCast_mul, h1]
    refine Ev.step (f := fun k => tegulalaw21_LayoutSpread.l1 k L 0 (cntL (F1 L) W) ((p + 1 : Nat) : Int)) (fun k => ?_) (ih (p + 1) (by omega) (by omega))
    simp only [tegulalaw21_LayoutSpread.l1]
    rw [cntL_len, if_pos (by omega), if_pos (by omega), cntL_rd _ hlt, h2, Q.wrap_small (i := (L.length : Int)) (by omega) (by omega), if_pos rfl, Q.wrap_small (by omega) (by omega)]
    rfl
theorem spread_l0 (L : List S52) {W : Nat} (hW : W ≤ 16) (hL : L.length ≤ 65536) (h0 : 0 < L.length) (hb : ∀ i (hi : i < L.length), 0 ≤ L[i].f1 ∧ L[i].f1 < (W : Int)) (hc : ∀ p : Nat, p < W → (F1 L).count (p : Int) * W = L.length) : ∀ n i, L.length - i = n → i ≤ L.length →
    Ev (fun k => tegulalaw21_LayoutSpread.l0 k L 0 (cntL ((F1 L).take i) W) (i : Int)) true := by
  intro n
  induction n with
  | zero =>
    intro i e hi
    obtain rfl : i = L.length := by omega
    refine Ev.step (f := fun k => tegulalaw21_LayoutSpread.l1 k L 0 (cntL (F1 L) W) ((0 : Nat) : Int)) (fun k => ?_) (spread_l1 L hW hL h0 hc W 0 rfl (by omega))
    simp only [tegulalaw21_LayoutSpread.l0]
    rw [if_neg (by omega), List.take_of_length_le (by unfold F1; rw [List.length_map]; omega)]
    rfl
  | succ n ih =>
    intro i e hi
    have hlt : i < L.length := by omega
    obtain ⟨b0, b1⟩ := hb i hlt
    obtain ⟨p, hp⟩ : ∃ p : Nat, L[i].f1 = (p : Int) := ⟨_, (Int.toNat_of_nonneg b0).symm⟩
    have hpW : p < W := by omega
    have hcl : ((F1 L).take i).count (p : Int) ≤ 65536 := Nat.le_trans List.count_le_length (by rw [List.length_take]; unfold F1; rw [List.length_map]; omega)
    have ht : (F1 L).take (i + 1) = (F1 L).take i ++ [(p : Int)] := by
      have : i < (F1 L).length := by unfold F1; rw [List.length_map]; exact hlt
      rw [List.take_succ_eq_append_getElem this]
      congr 2
      simp [F1, hp]
    refine Ev.step (f := fun k => tegulalaw21_LayoutSpread.l0 k L 0 (cntL ((F1 L).take (i + 1)) W) ((i + 1 : Nat) : Int)) (fun k => ?_) (ih (i + 1) (by omega) (by omega))
    simp only [tegulalaw21_LayoutSpread.l0]
    rw [rd52s hlt, hp, cntL_len, if_pos (by omega), if_pos (by omega), if_neg (by omega), if_neg (by omega), if_pos (by omega), if_pos (by omega), cntL_rd _ hpW, Q.wrap_small (i := (((((F1 L).take i).count (p : Int) : Nat) : Int) + 1)) (by omega) (by omega), Int.toNat_natCast, cntL_set _ hpW, ← ht, Q.wrap_small (by omega) (by omega)]
    rfl
theorem u8_bds {a : Int} (w : (Lit.int .u8 a).wf = true) : 0 ≤ a ∧ a < 65536 := by
  simp only [Lit.wf, Bool.and_eq_true, decide_eq_true_eq] at w
  have h1 : IntKind.u8.min = 0 := by decide
  have h2 : IntKind.u8.max = 255 := by decide
  omega
theorem spread_j (hd : desOk D l = true) {m : Nat} (hm : 1 ≤ m ∧ m ≤ 2) (ht : t = (m : Int) * (headLen l : Int)) (hs : 0 ≤ s ∧ s ≤ 7) {a1 : Int} (w : (Lit.int .u8 a1).wf = true) : Ev (fun k => tegulalaw21_LayoutSpread.j0 k a1 D l t s) true := by
  have hW : 4 ≤ headLen l ∧ headLen l ≤ 7 := by
    simp only [desOk, Bool.and_eq_true, decide_eq_true_eq] at hd
    obtain ⟨h1, h2, h3, h4, h5, h6, h7⟩ := hd
    exact ⟨h4, h5⟩
  have hm2 : m = 1 ∨ m = 2 := by omega
  have ht2 : 1 ≤ t ∧ t ≤ 14 := by rcases hm2 with rfl | rfl <;> omega
  obtain ⟨x, hx⟩ := good_any hd ht2 hs
  have hG := good_of hx
  have hn := homes_nn hG
  have Lm := lim_of hG
  have hD := Lm.rows.a
  have b1 := u8_bds w
  have m1 : Int.tmod (wrap64 a1) D = a1 % D := by rw [Q.wrap_small (by omega) (by omega), Int.tmod_eq_emod_of_nonneg (by omega)]
  have hd1 : 0 ≤ a1 % D ∧ a1 % D < D := ⟨Int.emod_nonneg _ (by omega), Int.emod_lt_of_pos _ (by omega)⟩
  obtain ⟨L, o1, o2, o3⟩ := lay_disk hx hd1
  have hT : t.toNat = m * headLen l := by rw [ht, ← Int.natCast_mul]; rfl
  have hlen : L.length = t.toNat * prs l 0 0 := by
    have : ((t.toNat * prs l 0 0 : Nat) : Int) = t * (prs l 0 0 : Int) := by rw [Int.natCast_mul, Int.toNat_of_nonneg (by omega)]
    omega
  have hlen1 : 0 < L.length := by rw [hlen]; exact Nat.mul_pos (by omega) (by have := Lm.r; omega)
  have hb : ∀ i (hi : i < L.length), 0 ≤ L[i].f1 ∧ L[i].f1 < (headLen l : Int) := fun i hi => ((has_iff hG).1 (o3 i hi).1).2.2
  have hrot : (F1 L).drop (prs l 0 0) ++ (F1 L).take (prs l 0 0) = (F1 L).map (fun v => (v - 1) % (headLen l : Int)) := by
    refine rot (T := t.toNat) (m := m) Lm.r.1 hT (by omega) (by unfold F1; rw [List.length_map]; exact hlen) (fun e he => ?_)
    obtain ⟨j, hj⟩ := piece_is hG hd1 he
    refine ⟨j, fun q hq => ?_⟩
    obtain ⟨g, hg⟩ := hj q (by omega)
    have hi : q * prs l 0 0 + e < L.length := by rw [hlen]; exact sum_lt hq he
    have h3 := (o3 _ hi).2.2
    rw [hg] at h3
    injection h3 with h3
    injection h3 with _ h3
    unfold F1
    rw [List.getElem?_map, List.getElem?_eq_getElem hi, Option.map_some, h3]
  have hbm : ∀ v ∈ F1 L, 0 ≤ v ∧ v < (headLen l : Int) := by
    intro v hv
    obtain ⟨y, hy, rfl⟩ := List.mem_map.1 hv
    obtain ⟨i, hi, rfl⟩ := List.mem_iff_getElem.1 hy
    exact hb i hi
  have hcnt : ∀ p : Nat, p < headLen l → (F1 L).count (p : Int) * headLen l = L.length := fun p hp => by
    have := cnt_all (by omega) hrot hbm hp
    rw [this]; unfold F1; rw [List.length_map]
  have hfin := spread_l0 L (W := headLen l) (by omega) (by omega) hlen1 hb hcnt L.length 0 rfl (by omega)
  refine Ev.step (f := fun k => tegulalaw21_LayoutSpread.l0 k L 0 (cntL ((F1 L).take 0) (headLen l)) ((0 : Nat) : Int)) (fun k => ?_) hfin
  have e0 : cntL ((F1 L).take 0) (headLen l) = List.replicate (headLen l) 0 := by
    refine List.ext_getElem (by rw [cntL_len, List.length_replicate]) (fun i h1 h2 => ?_)
    simp [cntL]
  simp only [tegulalaw21_LayoutSpread.j0]
  rw [if_neg (by omega), m1, o1, ref_width hG, e0]
  simp only [Option.bind_some, Int.toNat_natCast]
  rw [if_pos (by omega), if_pos (by omega)]
  rfl
theorem LayoutSpread : tegulalaw21_LayoutSpread.Pure := by
  intro a0 a1 a2 w0 w1
  obtain ⟨⟨D, l, t, s⟩, hS, hok⟩ := small_is w0
  obtain ⟨x, hx⟩ := small_good hok
  have hG := good_of hx
  have hW := (lim_of hG).W
  refine Ev.rounds (g := fun k => tegulalaw21_LayoutSpread.f k a0 a1 a2) ?_
  unfold tegulalaw21_LayoutSpread.f
  show Ev (fun k => (tegularef21_Small.f k a0).bind fun bt398 => _) true
  refine Ev.bind (Ev.of (tegularef21_Small.mono a0) hS) ?_
  dsimp only
  rw [ref_width hG]
  simp only [Option.bind_some]
  cases a2 with
  | true =>
    simp only [if_true]
    rw [Q.wrap_small (by omega) (by omega)]
    exact spread_j hok.d (m := 2) ⟨by omega, by omega⟩ rfl hok.s w1
  | false =>
    simp only [if_neg (show ¬ false = true by simp)]
    exact spread_j hok.d (m := 1) ⟨by omega, by omega⟩ (Int.one_mul _).symm hok.s w1

end Go.Proofs.Ytebnladkogkpfaa.Pure

namespace Go.Proofs.Ytebnladkogkpfaa.layoutSpread
open Go.ChangeShapes Go.WideShapes Go.ChangeAt Go.RowKit
open Go.ChangeMaps (open_string shut_string)
set_option linter.unusedVariables false
theorem own : ownKnob Try.prog.godebug = none := by kernel_rfl
set_option maxRecDepth 100000 in
theorem lifted (os : Os) (started : os.Started) (H : Type) (enc : TypeId × Value → H) :
    ReturnsInHanded {} Try.checked os 10 .any (Rows.layoutSpreadSpec.pre6 enc Try.prog Try.f10 Rows.layoutSpreadRow.domain false) (Rows.layoutSpreadSpec.post enc Try.prog Try.f10 false true false false) := by
  refine returnsInHanded_of_change_sized (C := Try.checked) own started (by kernel_rfl) Try.func10
    (ChangeSpec.witness6 (enc := enc) (C := Try.checked) false ⟨#[], #[.int .u16 0, .int .u8 0, .bool false], []⟩ 8 (by kernel_rfl) (by kernel_rfl) (by kernel_rfl) (by kernel_rfl)) ?_
  intro W base args ds gs before hval0 hW hcnd hsz0 _
  have hsz : (DataW.weightsEach Try.prog (Try.f10.params.toList ++ Rows.layoutSpreadSpec.plain.varTypes Try.prog) (ds ++ gs)).all (· ≤ reachBytes) = true := hsz0
  have hval : ∀ (j : Nat) t v, Try.f10.params[j]? = some t → args[j]? = some v → Value.okWide Try.prog W .any base t v := hval0
  have hW' := hW
  obtain ⟨p, q, hA0, hV, rfl, hfz, hnd⟩ := hW
  have hA : DataW.TrodAll enc Try.prog W 0 (fun _ => true) true Try.f10.params.toList args.toList ds p := hA0
  rw [Try.params10] at hA hval hsz
  obtain ⟨v0, vs0, d0, ds0, p0, q0, hargs, rfl, rfl, h0, r0⟩ := trodAll_cons hA
  obtain ⟨v1, vs1, d1, ds1, p1, q1, rfl, rfl, rfl, h1, r1⟩ := trodAll_cons r0
  obtain ⟨v2, vs2, d2, ds2, p2, q2, rfl, rfl, rfl, h2, r2⟩ := trodAll_cons r1
  obtain ⟨rfl, rfl, rfl⟩ := trodAll_nil r2
  obtain rfl : args = #[v0, v1, v2] := by cases args; simp_all
  obtain ⟨rfl, rfl⟩ := trodVars_none hV
  obtain ⟨a0, rfl, rfl, rfl, w0⟩ := open_int Try.underlying22 (hval 0 22 v0 rfl rfl) h0
  obtain ⟨a1, rfl, rfl, rfl, w1⟩ := open_int Try.underlying5 (hval 1 5 v1 rfl rfl) h1
  obtain ⟨a2, rfl, rfl, rfl⟩ := open_bool Try.underlying4 (hval 2 4 v2 rfl rfl) h2
  clear hA0 hval0 hsz0 hsz
  refine (Q.tegulalaw21_LayoutSpread.walk Pure.LayoutSpread a0 a1 a2 W w0 w1).mono fun e W' ⟨he, bel⟩ => ?_
  subst he
  exact ⟨_, rfl, _, _, _, [], _, [], hW', trodAll_mk1 (shut_bool Try.underlying4 _), (trodAll_cons_mk (shut_int Try.underlying22 w0) (trodAll_cons_mk (shut_int Try.underlying5 w1) (trodAll_cons_mk (shut_bool Try.underlying4 _) trodAll_mk0))), rfl, bel.frame _, fun h => by cases h⟩
theorem over : Rows.layoutSpreadRow.holds Try.pinned (OpenSpec.ofChange Rows.layoutSpreadSpec) :=
  OpenClaim.holds_of_wide 10 Try.f10 rfl rfl rfl rfl rfl rfl rfl ⟨rfl, rfl, rfl, rfl, rfl⟩ rfl rfl rfl rfl rfl (by kernel_rfl) Try.func10 (by kernel_rfl)
    (of_decide_eq_true (by kernel_rfl)) (by unfold Func.isWrapper; first | (rw [if_pos (by decide +kernel)]; kernel_rfl) | (rw [if_neg (by decide +kernel)]; exact ⟨rfl, rfl⟩))
    (fun os started H enc _ => lifted os started H enc)
theorem proved : Rows.LayoutSpreadSaid := over
#print axioms proved
end Go.Proofs.Ytebnladkogkpfaa.layoutSpread
namespace Go.Proofs.Ytebnladkogkpfaa
/-- The row, under a short name, for the claim. -/
theorem layoutSpread_holds : Rows.LayoutSpreadSaid := layoutSpread.proved
end Go.Proofs.Ytebnladkogkpfaa
