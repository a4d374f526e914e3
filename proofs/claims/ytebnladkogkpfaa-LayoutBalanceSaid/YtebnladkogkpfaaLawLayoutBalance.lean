/- The row of LayoutBalance holds: the law answers true on every input of its domain, on every machine; no conditions beyond those of the row itself. -/
-- Written by a program of this session (wip/tools/drv.py) for this claim: what the Go functions do, as Lean functions, and the walks.
import Derived.Test.YtebnladkogkpfaaRows
import Derived.Test.YtebnladkogkpfaaQ34
import Derived.WalkKit
import Derived.ProofKit
import Derived.OpenShut
import Derived.ShutString
import Derived.ChangeOld
import Derived.Below
import Derived.SizedLaws
import Derived.Test.YtebnladkogkpfaaPA
/-! LayoutBalance answers true. -/
namespace Go.Proofs.Ytebnladkogkpfaa.Pure
open Go.RowKit Go.Proofs.Ytebnladkogkpfaa.Q Go.Proofs.YtebnladkogkpfaaW.PrintWords Go.Proofs.YtebnladkogkpfaaW.PrintLast
open Go.Proofs.Ytebnladkogkpfaa.T (prs)

variable {D : Int} {l : List (List Int)} {t s : Int} {x : Nums}
def F0 (L : List S52) : List Int := L.map (·.f0)
theorem rd52 {L : List S52} {i : Nat} (hi : i < L.length) : rd_T52 L (i : Int) = L[i] := by
  unfold rd_T52; rw [Int.toNat_natCast, List.getD_eq_getElem?_getD, List.getElem?_eq_getElem hi]; rfl
theorem bal_l1 (a1 a2 r lam : Int) (L1 L2 : List S52) (h1 : L1.length ≤ 65536) (h2 : L2.length ≤ 65536) {i : Nat} (hi : i < L1.length) :
    ∀ n (j c : Nat), L2.length - j = n → j ≤ L2.length → c ≤ 4294967296 + j →
      Ev (fun k => tegulalaw21_LayoutBalance.l0 k a1 a2 r lam L1 L2 ((c + ((F0 L2).drop j).count L1[i].f0 : Nat) : Int) ((i + 1 : Nat) : Int) D l t s) true →
      Ev (fun k => tegulalaw21_LayoutBalance.l1 k a1 a2 r lam L1 L2 (c : Int) (i : Int) (j : Int) D l t s) true := by
  intro n
  induction n with
  | zero =>
    intro j c e hj hc h
    rw [List.drop_eq_nil_of_le (by unfold F0; rw [List.length_map]; omega)] at h
    refine Ev.step (f := fun k => tegulalaw21_LayoutBalance.l0 k a1 a2 r lam L1 L2 ((c + ([] : List Int).count L1[i].f0 : Nat) : Int) ((i + 1 : Nat) : Int) D l t s) (fun k => ?_) h
    simp only [tegulalaw21_LayoutBalance.l1]
    rw [if_neg (by omega), Q.wrap_small (by omega) (by omega)]
    rfl
  | succ n ih =>
    intro j c e hj hc h
    have hlt : j < L2.length := by omega
    have hd : (F0 L2).drop j = L2[j].f0 :: (F0 L2).drop (j + 1) := by
      rw [List.drop_eq_getElem_cons (by unfold F0; rw [List.length_map]; omega)]
      simp [F0]
    rw [hd, List.count_cons] at h
    by_cases c1 : L1[i].f0 = L2[j].f0
    · have h3 := ih (j + 1) (c + 1) (by omega) (by omega) (by omega) (by
        rw [if_pos (by rw [c1]; simp)] at h
        rw [show c + 1 + ((F0 L2).drop (j + 1)).count L1[i].f0 = c + (((F0 L2).drop (j + 1)).count L1[i].f0 + 1) by omega]
        exact h)
      refine Ev.step (f := fun k => tegulalaw21_LayoutBalance.l1 k a1 a2 r lam L1 L2 ((c + 1 : Nat) : Int) (i : Int) ((j + 1 : Nat) : Int) D l t s) (fun k => ?_) h3
      simp only [tegulalaw21_LayoutBalance.l1]
      rw [if_pos (by omega), if_pos (by omega), if_pos (by omega), if_pos (by omega), rd52 hi, rd52 hlt, if_pos c1, Q.wrap_small (by omega) (by omega), Q.wrap_small (by omega) (by omega)]
      rfl
    · have h3 := ih (j + 1) c (by omega) (by omega) (by omega) (by
        rw [if_neg (by simp; exact fun e => c1 e.symm)] at h
        exact h)
      refine Ev.step (f := fun k => tegulalaw21_LayoutBalance.l1 k a1 a2 r lam L1 L2 (c : Int) (i : Int) ((j + 1 : Nat) : Int) D l t s) (fun k => ?_) h3
      simp only [tegulalaw21_LayoutBalance.l1]
      rw [if_pos (by omega), if_pos (by omega), if_pos (by omega), if_pos (by omega), rd52 hi, rd52 hlt, if_neg c1, Q.wrap_small (by omega) (by omega)]
      rfl
theorem bal_l0 (a1 a2 r lam : Int) (L1 L2 : List S52) (h1 : L1.length ≤ 65536) (h2 : L2.length ≤ 65536) (hnd : (F0 L2).Nodup) (C : Nat) (hC : ((F0 L1).filter fun a => decide (a ∈ F0 L2)).length = C) (hfin : ∀ i : Nat, i = L1.length → ∀ k, tegulalaw21_LayoutBalance.l0 (k + 1) a1 a2 r lam L1 L2 (C : Int) (i : Int) D l t s = some true) :
    ∀ n (i c : Nat), L1.length - i = n → i ≤ L1.length → c ≤ i → c + (((F0 L1).drop i).filter fun a => decide (a ∈ F0 L2)).length = C →
      Ev (fun k => tegulalaw21_LayoutBalance.l0 k a1 a2 r lam L1 L2 (c : Int) (i : Int) D l t s) true := by
  intro n
  induction n with
  | zero =>
    intro i c e hi hc h
    rw [List.drop_eq_nil_of_le (by unfold F0; rw [List.length_map]; omega)] at h
    simp only [List.filter_nil, List.length_nil, Nat.add_zero] at h
    subst h
    exact Ev.step (f := fun _ => some true) (hfin i (by omega)) (Ev.now _)
  | succ n ih =>
    intro i c e hi hc h
    have hlt : i < L1.length := by omega
    have hd : (F0 L1).drop i = L1[i].f0 :: (F0 L1).drop (i + 1) := by
      rw [List.drop_eq_getElem_cons (by unfold F0; rw [List.length_map]; omega)]
      simp [F0]
    have hcnt : (F0 L2).count L1[i].f0 = if L1[i].f0 ∈ F0 L2 then 1 else 0 := hnd.count
    rw [hd, List.filter_cons] at h
    have h3 := ih (i + 1) (c + (F0 L2).count L1[i].f0) (by omega) (by omega) (by rw [hcnt]; split <;> omega) (by
      rw [hcnt]
      by_cases m : L1[i].f0 ∈ F0 L2
      · rw [if_pos (decide_eq_true m), List.length_cons] at h
        rw [if_pos m]; omega
      · rw [if_neg (by simp [m])] at h
        rw [if_neg m]; omega)
    have h4 := bal_l1 (D := D) (l := l) (t := t) (s := s) a1 a2 r lam L1 L2 h1 h2 hlt L2.length 0 c rfl (by omega) (by omega) (by rw [List.drop_zero]; exact h3)
    refine Ev.step (f := fun k => tegulalaw21_LayoutBalance.l1 k a1 a2 r lam L1 L2 (c : Int) (i : Int) ((0 : Nat) : Int) D l t s) (fun k => ?_) h4
    simp only [tegulalaw21_LayoutBalance.l0]
    rw [if_pos (by omega)]
    rfl

/-! The count itself. -/
def both (l : List (List Int)) (d1 d2 : Int) (g : Nat) : Bool := decide (d1 ∈ l.getD (g % l.length) [] ∧ d2 ∈ l.getD (g % l.length) [])
theorem both_row (h : Q.Rows D l) (d1 d2 : Int) : ∀ m, m ≤ l.length → ((List.range m).filter fun g => decide (d1 ∈ l.getD g [] ∧ d2 ∈ l.getD g [])).length = prs (l.take m) d1 d2 := by
  intro m
  induction m with
  | zero => intro _; simp [prs]
  | succ m ih =>
    intro hm
    have hlt : m < l.length := by omega
    rw [List.range_succ, List.filter_append, List.length_append, ih (by omega), T.prs_take l m hlt, (h.nd m hlt).count, (h.nd m hlt).count]
    congr 1
    have e : l.getD m [] = l[m] := by rw [List.getD_eq_getElem?_getD, List.getElem?_eq_getElem hlt]; rfl
    rw [List.filter_cons, e]
    by_cases c1 : d1 ∈ l[m] <;> by_cases c2 : d2 ∈ l[m] <;> simp [c1, c2]
theorem both_all (h : Q.Rows D l) (d1 d2 : Int) : ∀ T : Nat, ((List.range (T * l.length)).filter (both l d1 d2)).length = T * prs l d1 d2 := by
  intro T
  induction T with
  | zero => simp
  | succ T ih =>
    rw [Nat.succ_mul, List.range_add, List.filter_append, List.length_append, ih, Nat.succ_mul]
    congr 1
    have h1 := both_row h d1 d2 l.length (Nat.le_refl _)
    rw [List.take_length] at h1
    rw [← h1, List.filter_map, List.length_map]
    congr 1
    refine List.filter_congr (fun g hg => ?_)
    rw [List.mem_range] at hg
    simp only [Function.comp, both]
    rw [Nat.mul_comm, Nat.mul_add_mod, Nat.mod_eq_of_lt hg]
def DiskL (x : Nums) (d : Int) (H : Int) (L : List S52) : Prop := (L.length : Int) = H ∧ ∀ i (hi : i < L.length), hasB x L[i].f0 L[i].f1 = true ∧ homeN x L[i].f0 L[i].f1 = some (d, (i : Int)) ∧ atN x d (i : Int) = some (L[i].f0, L[i].f1)
theorem f0_nodup (h : Q.Good D l t s x) {d : Int} {L : List S52} (hL : DiskL x d (t * (prs l 0 0 : Int)) L) : (F0 L).Nodup := by
  unfold F0
  refine List.pairwise_iff_getElem.2 (fun i j hi hj hij => ?_)
  rw [List.getElem_map, List.getElem_map]
  rw [List.length_map] at hi hj
  intro e
  obtain ⟨a1, a2, a3⟩ := hL.2 i hi
  obtain ⟨b1, b2, b3⟩ := hL.2 j hj
  rw [← e] at b1 b2
  have hp := same_place h a1 b1 a2 b2
  rw [← hp, a2] at b2
  injection b2 with b2
  injection b2 with _ b2
  omega
theorem f0_mem (h : Q.Good D l t s x) {d : Int} (hd : 0 ≤ d ∧ d < D) {L : List S52} (hL : DiskL x d (t * (prs l 0 0 : Int)) L) (a : Int) : a ∈ F0 L ↔ ∃ g : Nat, a = (g : Int) ∧ g < t.toNat * l.length ∧ d ∈ l.getD (g % l.length) [] := by
  have Lm := lim_of h
  have ht := Lm.tt
  constructor
  · intro ha
    obtain ⟨i, hi, rfl⟩ := List.mem_iff_getElem.1 ha
    unfold F0 at hi ⊢
    rw [List.length_map] at hi
    rw [List.getElem_map]
    obtain ⟨a1, a2, _⟩ := hL.2 i hi
    obtain ⟨d', B', e1, _, _, _, _, b, q, j, hb, hj, f1, f2, f3, f4⟩ := inv_home h a1
    rw [a2] at e1
    injection e1 with e1
    injection e1 with e1 _
    have k := (has_iff h).1 a1
    obtain ⟨g, hg⟩ : ∃ g : Nat, L[i].f0 = (g : Int) := ⟨_, (Int.toNat_of_nonneg k.1).symm⟩
    refine ⟨g, hg, ?_, ?_⟩
    · have e2 : ((t.toNat * l.length : Nat) : Int) = t * (l.length : Int) := by rw [Int.natCast_mul, Int.toNat_of_nonneg (by omega)]
      omega
    · rw [hg, Int.tmod_eq_emod_of_nonneg (by omega), ← Int.natCast_emod] at f3
      have f5 : b = g % l.length := by omega
      rw [← f5, List.getD_eq_getElem?_getD, List.getElem?_eq_getElem hb]
      simp only [Option.getD_some]
      rw [e1, f1]
      exact List.getElem_mem hj
  · rintro ⟨g, rfl, hg, hm⟩
    have hn := Lm.rows.n
    have hb : g % l.length < l.length := Nat.mod_lt _ (by omega)
    rw [List.getD_eq_getElem?_getD, List.getElem?_eq_getElem hb] at hm
    simp only [Option.getD_some] at hm
    obtain ⟨j, hj, hjd⟩ := List.mem_iff_getElem.1 hm
    have hq : ((g / l.length : Nat) : Int) < t := by
      have := (Nat.div_lt_iff_lt_mul (show 0 < l.length by omega)).2 hg
      omega
    have h3 := at_is h hq hb hj
    rw [hjd] at h3
    have hlt := (List.getElem?_eq_some_iff.1 (on_get hb hm l.length hb)).1
    rw [on_r Lm.rows Lm.bal hd.1 hd.2] at hlt
    have hB := sumI hq hlt
    rw [← hL.1] at hB
    have hi : g / l.length * prs l 0 0 + (T.onUpto l (g % l.length) d).length < L.length := by omega
    obtain ⟨_, _, a3⟩ := hL.2 _ hi
    rw [h3] at a3
    injection a3 with a3
    injection a3 with a3 _
    have e2 : g / l.length * l.length + g % l.length = g := by rw [Nat.mul_comm]; exact Nat.div_add_mod _ _
    rw [e2] at a3
    unfold F0
    rw [List.mem_map]
    exact ⟨_, List.getElem_mem hi, a3.symm⟩
theorem pair_count (h : Q.Good D l t s x) {d1 d2 : Int} (hd1 : 0 ≤ d1 ∧ d1 < D) (hd2 : 0 ≤ d2 ∧ d2 < D) {L1 L2 : List S52} (hL1 : DiskL x d1 (t * (prs l 0 0 : Int)) L1) (hL2 : DiskL x d2 (t * (prs l 0 0 : Int)) L2) :
    ((F0 L1).filter fun a => decide (a ∈ F0 L2)).length = t.toNat * prs l d1 d2 := by
  rw [← both_all (lim_of h).rows d1 d2 t.toNat, ← List.length_map (f := fun g : Nat => (g : Int))]
  refine List.Perm.length_eq ?_
  refine (List.perm_ext_iff_of_nodup ((f0_nodup h hL1).filter _) ?_).2 (fun a => ?_)
  · refine List.pairwise_map.2 ?_
    refine ((List.nodup_range.filter _)).imp (fun {a b} hab e => hab (by omega))
  · rw [List.mem_filter, decide_eq_true_eq, f0_mem h hd1 hL1, f0_mem h hd2 hL2, List.mem_map]
    constructor
    · rintro ⟨⟨g, rfl, hg, m1⟩, g', e, _, m2⟩
      have e' : g = g' := by omega
      subst e'
      exact ⟨g, List.mem_filter.2 ⟨List.mem_range.2 hg, decide_eq_true ⟨m1, m2⟩⟩, rfl⟩
    · rintro ⟨g, hg, rfl⟩
      rw [List.mem_filter, List.mem_range] at hg
      have hb := of_decide_eq_true hg.2
      exact ⟨⟨g, rfl, hg.1, hb.1⟩, g, rfl, hg.1, hb.2⟩
theorem u8_bd {a : Int} (w : (Lit.int .u8 a).wf = true) : 0 ≤ a ∧ a < 65536 := by
  simp only [Lit.wf, Bool.and_eq_true, decide_eq_true_eq] at w
  have h1 : IntKind.u8.min = 0 := by decide
  have h2 : IntKind.u8.max = 255 := by decide
  omega
theorem LayoutBalance : tegulalaw21_LayoutBalance.Pure := by
  intro a0 a1 a2 w0 w1 w2
  obtain ⟨⟨D, l, t, s⟩, hS, hok⟩ := small_is w0
  obtain ⟨x, hx⟩ := small_good hok
  have hG := good_of hx
  have hn := homes_nn hG
  have Lm := lim_of hG
  have hD := Lm.rows.a
  have ht := Lm.tt
  have b1 := u8_bd w1
  have b2 := u8_bd w2
  have hlam := (bal_of hG.f hG.bal).2
  have hle := prs_le_diag Lm.rows
  have hc : checkD D l = ((prs l 0 0 : Int), (prs l 0 1 : Int), 0) := by
    unfold checkD
    rw [if_pos hG.f, T.chk_yes Lm.bal (by omega)]
  have m1 : Int.tmod (wrap64 a1) D = a1 % D := by rw [Q.wrap_small (by omega) (by omega), Int.tmod_eq_emod_of_nonneg (by omega)]
  have m2 : Int.tmod (wrap64 a2) D = a2 % D := by rw [Q.wrap_small (by omega) (by omega), Int.tmod_eq_emod_of_nonneg (by omega)]
  have hd1 : 0 ≤ a1 % D ∧ a1 % D < D := ⟨Int.emod_nonneg _ (by omega), Int.emod_lt_of_pos _ (by omega)⟩
  have hd2 : 0 ≤ a2 % D ∧ a2 % D < D := ⟨Int.emod_nonneg _ (by omega), Int.emod_lt_of_pos _ (by omega)⟩
  obtain ⟨L1, o1, o2, o3⟩ := lay_disk hx hd1
  obtain ⟨L2, q1, q2, q3⟩ := lay_disk hx hd2
  have hcnt := pair_count hG hd1 hd2 ⟨o2, o3⟩ ⟨q2, q3⟩
  have hw : wrap64 (t * (prs l 0 0 : Int)) = t * (prs l 0 0 : Int) := Q.wrap_small (by omega) (by omega)
  have hl2 : 0 ≤ t * (prs l 0 1 : Int) ∧ t * (prs l 0 1 : Int) ≤ t * (prs l 0 0 : Int) := ⟨Int.mul_nonneg (by omega) (by omega), Int.mul_le_mul_of_nonneg_left (by omega) (by omega)⟩
  have hw2 : wrap64 (t * (prs l 0 1 : Int)) = t * (prs l 0 1 : Int) := Q.wrap_small (by omega) (by omega)
  have hloop := bal_l0 (D := D) (l := l) (t := t) (s := s) a1 a2 (prs l 0 0 : Int) (prs l 0 1 : Int) L1 L2 (by omega) (by omega) (f0_nodup hG ⟨q2, q3⟩) _ hcnt (fun i hi k => by
    have hB := Lm.bal (a1 % D).toNat (by omega) (a2 % D).toNat (by omega)
    rw [Int.toNat_of_nonneg hd1.1, Int.toNat_of_nonneg hd2.1] at hB
    simp only [tegulalaw21_LayoutBalance.l0]
    rw [if_neg (by omega), if_neg (by omega), m1, m2, hw, hw2, Int.natCast_mul, Int.toNat_of_nonneg (by omega)]
    by_cases c : a1 % D = a2 % D
    · rw [if_pos (by rw [c])] at hB
      rw [if_pos c, hB]; simp
    · rw [if_neg (by omega)] at hB
      rw [if_neg c, hB]; simp) L1.length 0 0 rfl (by omega) (by omega) (by rw [List.drop_zero, Nat.zero_add]; exact hcnt)
  refine Ev.rounds (g := fun k => tegulalaw21_LayoutBalance.f k a0 a1 a2) ?_
  unfold tegulalaw21_LayoutBalance.f
  show Ev (fun k => (tegularef21_Small.f k a0).bind fun bt238 => _) true
  refine Ev.bind (Ev.of (tegularef21_Small.mono a0) hS) ?_
  unfold design_Check.f
  dsimp only
  rw [hc, m1, m2, o1, q1]
  simp only [Option.bind_some]
  simp only [if_neg (show ¬ D = 0 by omega), hw, o2, if_true]
  refine Ev.step (f := fun k => tegulalaw21_LayoutBalance.l0 k a1 a2 (prs l 0 0 : Int) (prs l 0 1 : Int) L1 L2 ((0 : Nat) : Int) ((0 : Nat) : Int) D l t s) (fun k => ?_) hloop
  simp only [tegulalaw21_LayoutBalance.j0]
  rw [q2, if_neg (by simp)]
  rfl

end Go.Proofs.Ytebnladkogkpfaa.Pure

namespace Go.Proofs.Ytebnladkogkpfaa.layoutBalance
open Go.ChangeShapes Go.WideShapes Go.ChangeAt Go.RowKit
open Go.ChangeMaps (open_string shut_string)
set_option linter.unusedVariables false
theorem own : ownKnob Try.prog.godebug = none := by kernel_rfl
set_option maxRecDepth 100000 in
theorem lifted (os : Os) (started : os.Started) (H : Type) (enc : TypeId × Value → H) :
    ReturnsInHanded {} Try.checked os 9 .any (Rows.layoutBalanceSpec.pre6 enc Try.prog Try.f9 Rows.layoutBalanceRow.domain false) (Rows.layoutBalanceSpec.post enc Try.prog Try.f9 false true false false) := by
  refine returnsInHanded_of_change_sized (C := Try.checked) own started (by kernel_rfl) Try.func9
    (ChangeSpec.witness6 (enc := enc) (C := Try.checked) false ⟨#[], #[.int .u16 0, .int .u8 0, .int .u8 0], []⟩ 8 (by kernel_rfl) (by kernel_rfl) (by kernel_rfl) (by kernel_rfl)) ?_
  intro W base args ds gs before hval0 hW hcnd hsz0 _
  have hsz : (DataW.weightsEach Try.prog (Try.f9.params.toList ++ Rows.layoutBalanceSpec.plain.varTypes Try.prog) (ds ++ gs)).all (· ≤ reachBytes) = true := hsz0
  have hval : ∀ (j : Nat) t v, Try.f9.params[j]? = some t → args[j]? = some v → Value.okWide Try.prog W .any base t v := hval0
  have hW' := hW
  obtain ⟨p, q, hA0, hV, rfl, hfz, hnd⟩ := hW
  have hA : DataW.TrodAll enc Try.prog W 0 (fun _ => true) true Try.f9.params.toList args.toList ds p := hA0
  rw [Try.params9] at hA hval hsz
  obtain ⟨v0, vs0, d0, ds0, p0, q0, hargs, rfl, rfl, h0, r0⟩ := trodAll_cons hA
  obtain ⟨v1, vs1, d1, ds1, p1, q1, rfl, rfl, rfl, h1, r1⟩ := trodAll_cons r0
  obtain ⟨v2, vs2, d2, ds2, p2, q2, rfl, rfl, rfl, h2, r2⟩ := trodAll_cons r1
  obtain ⟨rfl, rfl, rfl⟩ := trodAll_nil r2
  obtain rfl : args = #[v0, v1, v2] := by cases args; simp_all
  obtain ⟨rfl, rfl⟩ := trodVars_none hV
  obtain ⟨a0, rfl, rfl, rfl, w0⟩ := open_int Try.underlying22 (hval 0 22 v0 rfl rfl) h0
  obtain ⟨a1, rfl, rfl, rfl, w1⟩ := open_int Try.underlying5 (hval 1 5 v1 rfl rfl) h1
  obtain ⟨a2, rfl, rfl, rfl, w2⟩ := open_int Try.underlying5 (hval 2 5 v2 rfl rfl) h2
  clear hA0 hval0 hsz0 hsz
  refine (Q.tegulalaw21_LayoutBalance.walk Pure.LayoutBalance a0 a1 a2 W w0 w1 w2).mono fun e W' ⟨he, bel⟩ => ?_
  subst he
  exact ⟨_, rfl, _, _, _, [], _, [], hW', trodAll_mk1 (shut_bool Try.underlying4 _), (trodAll_cons_mk (shut_int Try.underlying22 w0) (trodAll_cons_mk (shut_int Try.underlying5 w1) (trodAll_cons_mk (shut_int Try.underlying5 w2) trodAll_mk0))), rfl, bel.frame _, fun h => by cases h⟩
theorem over : Rows.layoutBalanceRow.holds Try.pinned (OpenSpec.ofChange Rows.layoutBalanceSpec) :=
  OpenClaim.holds_of_wide 9 Try.f9 rfl rfl rfl rfl rfl rfl rfl ⟨rfl, rfl, rfl, rfl, rfl⟩ rfl rfl rfl rfl rfl (by kernel_rfl) Try.func9 (by kernel_rfl)
    (of_decide_eq_true (by kernel_rfl)) (by unfold Func.isWrapper; first | (rw [if_pos (by decide +kernel)]; kernel_rfl) | (rw [if_neg (by decide +kernel)]; exact ⟨rfl, rfl⟩))
    (fun os started H enc _ => lifted os started H enc)
theorem proved : Rows.LayoutBalanceSaid := over
#print axioms proved
end Go.Proofs.Ytebnladkogkpfaa.layoutBalance
namespace Go.Proofs.Ytebnladkogkpfaa
/-- The row, under a short name, for the claim. -/
theorem layoutBalance_holds : Rows.LayoutBalanceSaid := layoutBalance.proved
end Go.Proofs.Ytebnladkogkpfaa
