/- The row of LayoutFull holds: the law answers true on every input of its domain, on every machine; no conditions beyond those of the row itself. -/
-- Written by a program of this session (wip/tools/drv.py) for this claim: what the Go functions do, as Lean functions, and the walks.
import Derived.Test.YtebnladkogkpfaaRows
import Derived.Test.YtebnladkogkpfaaQ28
import Derived.WalkKit
import Derived.ProofKit
import Derived.OpenShut
import Derived.ShutString
import Derived.ChangeOld
import Derived.Below
import Derived.SizedLaws
import Derived.Test.YtebnladkogkpfaaPA
/-! LayoutFull answers true. -/
namespace Go.Proofs.Ytebnladkogkpfaa.Pure
open Go.RowKit Go.Proofs.Ytebnladkogkpfaa.Q Go.Proofs.YtebnladkogkpfaaW.PrintWords Go.Proofs.YtebnladkogkpfaaW.PrintLast
open Go.Proofs.Ytebnladkogkpfaa.T (prs)

variable {D : Int} {l : List (List Int)} {t s : Int} {x : Nums}
theorem lay_groups (hx : Q.measure D l t s = (x, true)) : layout_Groups.f D l t s = some (t * (l.length : Int)) := by
  unfold layout_Groups.f
  rw [hx, groups_is (bds_of (good_of hx)), x_n (good_of hx)]
theorem lay_width (hx : Q.measure D l t s = (x, true)) : layout_Width.f D l t s = some (headLen l : Int) := by
  unfold layout_Width.f
  rw [hx, x_w (good_of hx)]
theorem lay_blocks (hx : Q.measure D l t s = (x, true)) : layout_Blocks.f D l t s = some (t * (prs l 0 0 : Int) + s) := by
  unfold layout_Blocks.f
  rw [hx, x_c (good_of hx)]
/-- Cell i = d*H + B. -/
theorem pair_ix {d B d' B' H : Int} (hB : 0 ≤ B ∧ B < H) (hB' : 0 ≤ B' ∧ B' < H) (h : d * H + B = d' * H + B') : d = d' ∧ B = B' := by
  have e : ∀ {d B : Int}, 0 ≤ B ∧ B < H → (d * H + B) / H = d := fun {d B} hb => by
    rw [Int.add_comm, Int.add_mul_ediv_right _ _ (by omega), Int.ediv_eq_zero_of_lt hb.1 hb.2]; omega
  have h1 := e (d := d) hB
  rw [h, e hB'] at h1
  subst h1
  exact ⟨rfl, by omega⟩
theorem pair_bd {d B D H : Int} (hd : 0 ≤ d ∧ d < D) (hB : 0 ≤ B ∧ B < H) (hH : H ≤ 200) (hD : D ≤ 60) : 0 ≤ d * H ∧ d * H ≤ 12000 ∧ 0 ≤ d * H + B ∧ d * H + B < D * H ∧ D * H ≤ 12000 := by
  have h0 : 0 ≤ d * H := Int.mul_nonneg hd.1 (by omega)
  have h1 : (d + 1) * H ≤ D * H := Int.mul_le_mul_of_nonneg_right (by omega) (by omega)
  have h2 : D * H ≤ 60 * H := Int.mul_le_mul_of_nonneg_right (by omega) (by omega)
  rw [Int.add_mul] at h1
  omega
/-- What is seen before (g, p). -/
def Seen (x : Nums) (D H : Int) (seen : List Bool) (g p : Int) : Prop :=
  (seen.length : Int) = D * H ∧ ∀ d B g' p', 0 ≤ d ∧ d < D → 0 ≤ B ∧ B < H → atN x d B = some (g', p') → rdOf false seen (d * H + B) = decide (g' < g ∨ (g' = g ∧ p' < p))
theorem full_l2 (seen : List Bool) (hl : seen.length ≤ 12000) (h : ∀ i : Nat, i < seen.length → rdOf false seen (i : Int) = true) : ∀ n i : Nat, seen.length - i = n → i ≤ seen.length → Ev (fun k => tegulalaw21_LayoutFull.l2 k seen (i : Int)) true := by
  intro n
  induction n with
  | zero =>
    intro i e hi
    refine Ev.step (f := fun _ => some true) (fun k => ?_) (Ev.now _)
    simp only [tegulalaw21_LayoutFull.l2]
    rw [if_neg (by omega)]
  | succ n ih =>
    intro i e hi
    refine Ev.step (f := fun k => tegulalaw21_LayoutFull.l2 k seen ((i + 1 : Nat) : Int)) (fun k => ?_) (ih (i + 1) (by omega) (by omega))
    simp only [tegulalaw21_LayoutFull.l2]
    rw [if_pos (by omega), if_pos (by omega), h i (by omega), if_pos rfl, Q.wrap_small (by omega) (by omega)]
    rfl
theorem full_l1 (hx : Q.measure D l t s = (x, true)) (H : Int) (hH : H = t * (prs l 0 0 : Int)) (hH2 : H ≤ 200) (g : Int) (hg : 0 ≤ g ∧ g < t * (l.length : Int)) :
    ∀ n (p : Nat) seen, headLen l - p = n → p ≤ headLen l → Seen x D H seen g (p : Int) →
      (∀ seen', Seen x D H seen' (g + 1) 0 → Ev (fun k => tegulalaw21_LayoutFull.l0 k H seen' (g + 1) D l t s) true) →
      Ev (fun k => tegulalaw21_LayoutFull.l1 k H seen g (p : Int) D l t s) true := by
  have h := good_of hx
  have L := lim_of h
  have hgn := groups_nn h
  intro n
  induction n with
  | zero =>
    intro p seen e hp hS hk
    refine Ev.step (f := fun k => tegulalaw21_LayoutFull.l0 k H seen (g + 1) D l t s) (fun k => ?_) (hk seen ⟨hS.1, fun d B g' p' hd hB ha => ?_⟩)
    · simp only [tegulalaw21_LayoutFull.l1]
      rw [lay_width hx]
      simp only [Option.bind_some]
      rw [if_neg (by omega), Q.wrap_small (by omega) (by omega)]
    · rw [hS.2 d B g' p' hd hB ha, decide_eq_decide]
      obtain ⟨g2, p2, k1, k2, _⟩ := inv_at h hd (hH ▸ hB)
      rw [ha] at k2
      injection k2 with k2
      injection k2 with k2 k3
      subst k2 k3
      have k4 := (has_iff h).1 k1
      omega
  | succ n ih =>
    intro p seen e hp hS hk
    have hlt : p < headLen l := by omega
    have hh : hasB x g (p : Int) = true := (has_iff h).2 ⟨hg.1, hg.2, by omega, by omega⟩
    obtain ⟨d, B, h1, h2, h3, h4, h5, _⟩ := inv_home h hh
    rw [← hH] at h4
    have h6 := lay_home hx hh h1
    have h8 := hS.2 d B g (p : Int) h3 h4 h5
    rw [decide_eq_false (by omega)] at h8
    have hb := pair_bd h3 h4 hH2 L.rows.a.2
    have hW := L.W
    have hlen := hS.1
    have h9 := ih (p + 1) (seen.set (d * H + B).toNat true) (by omega) (by omega) ⟨by rw [List.length_set]; exact hlen, fun d' B' g' p' hd' hB' ha => by
      have hb' := pair_bd hd' hB' hH2 L.rows.a.2
      by_cases c : d' * H + B' = d * H + B
      · obtain ⟨rfl, rfl⟩ := pair_ix hB' h4 c
        rw [h5] at ha
        injection ha with ha
        injection ha with ha1 ha2
        subst ha1 ha2
        rw [decide_eq_true (by omega)]
        unfold rdOf
        rw [List.getD_eq_getElem?_getD, List.getElem?_set_self (by omega)]
        rfl
      · have k := hS.2 d' B' g' p' hd' hB' ha
        have e1 : rdOf false (seen.set (d * H + B).toNat true) (d' * H + B') = rdOf false seen (d' * H + B') := by
          unfold rdOf
          rw [List.getD_eq_getElem?_getD, List.getElem?_set_ne (by omega), List.getD_eq_getElem?_getD]
        rw [e1, k, decide_eq_decide]
        have hne : ¬ (g' = g ∧ p' = (p : Int)) := by
          rintro ⟨rfl, rfl⟩
          obtain ⟨g2, p2, _, k2, k3⟩ := inv_at h hd' (hH ▸ hB')
          rw [ha] at k2
          injection k2 with k2
          injection k2 with k2 k4
          subst k2 k4
          rw [h1] at k3
          injection k3 with k3
          injection k3 with k3 k5
          subst k3 k5
          exact c rfl
        omega⟩ hk
    refine Ev.step (f := fun k => tegulalaw21_LayoutFull.l1 k H (seen.set (d * H + B).toNat true) g ((p + 1 : Nat) : Int) D l t s) (fun k => ?_) h9
    simp only [tegulalaw21_LayoutFull.l1]
    rw [lay_width hx, h6]
    simp only [Option.bind_some]
    rw [if_pos (by omega), if_pos trivial, if_neg (by omega), if_neg (by omega), Q.wrap_small (i := d * H) (by omega) (by omega), Q.wrap_small (i := d * H + B) (by omega) (by omega), if_neg (by omega), if_neg (by omega), if_pos (by omega), if_pos (by omega), h8, if_neg (by decide), Q.wrap_small (by omega) (by omega)]
    rfl
theorem full_l0 (hx : Q.measure D l t s = (x, true)) (H : Int) (hH : H = t * (prs l 0 0 : Int)) (hH1 : 1 ≤ H) (hH2 : H ≤ 200) :
    ∀ n (g : Nat) seen, (t * (l.length : Int)).toNat - g = n → (g : Int) ≤ t * (l.length : Int) → Seen x D H seen (g : Int) 0 → Ev (fun k => tegulalaw21_LayoutFull.l0 k H seen (g : Int) D l t s) true := by
  have h := good_of hx
  have L := lim_of h
  intro n
  induction n with
  | zero =>
    intro g seen e hg hS
    have hD := L.rows.a
    have hlb := pair_bd (d := 0) (B := 0) (D := D) (H := H) (by omega) (by omega) hH2 hD.2
    have hlen := hS.1
    refine Ev.step (f := fun k => tegulalaw21_LayoutFull.l2 k seen ((0 : Nat) : Int)) (fun k => ?_) (full_l2 seen (by omega) (fun i hi => ?_) seen.length 0 rfl (by omega))
    · simp only [tegulalaw21_LayoutFull.l0]
      rw [lay_groups hx]
      simp only [Option.bind_some]
      rw [if_neg (by omega)]
      rfl
    · have m0 : 0 ≤ (i : Int) % H := Int.emod_nonneg _ (by omega)
      have m1 : (i : Int) % H < H := Int.emod_lt_of_pos _ (by omega)
      have d0 : 0 ≤ (i : Int) / H := Int.ediv_nonneg (by omega) (by omega)
      have d1 : (i : Int) / H < D := Int.ediv_lt_of_lt_mul (by omega) (by omega)
      have hsum : H * ((i : Int) / H) + (i : Int) % H = (i : Int) := Int.mul_ediv_add_emod _ _
      obtain ⟨g2, p2, k1, k2, _⟩ := inv_at h (d := (i : Int) / H) (B := (i : Int) % H) ⟨d0, d1⟩ (hH ▸ ⟨m0, m1⟩)
      have k3 := hS.2 _ _ g2 p2 ⟨d0, d1⟩ ⟨m0, m1⟩ k2
      rw [Int.mul_comm, hsum] at k3
      rw [k3]
      have k4 := (has_iff h).1 k1
      exact decide_eq_true (by omega)
  | succ n ih =>
    intro g seen e hg hS
    refine Ev.step (f := fun k => tegulalaw21_LayoutFull.l1 k H seen (g : Int) ((0 : Nat) : Int) D l t s) (fun k => ?_) (full_l1 hx H hH hH2 (g : Int) ⟨by omega, by omega⟩ (headLen l) 0 seen rfl (by omega) hS (fun seen' hS' => ?_))
    · simp only [tegulalaw21_LayoutFull.l0]
      rw [lay_groups hx]
      simp only [Option.bind_some]
      rw [if_pos (by omega)]
      rfl
    · exact ih (g + 1) seen' (by omega) (by omega) hS'
theorem LayoutFull : tegulalaw21_LayoutFull.Pure := by
  intro a0 w0
  obtain ⟨⟨D, l, t, s⟩, hS, hok⟩ := small_is w0
  obtain ⟨x, hx⟩ := small_good hok
  have hG := good_of hx
  have hn := homes_nn hG
  have L := lim_of hG
  have hD := L.rows.a
  have hs := L.ss
  have hr40 : prs l 0 0 ≤ 40 := by
    have := hok.d
    simp only [desOk, Bool.and_eq_true, decide_eq_true_eq] at this
    exact this.2.2.2.2.2.2
  have ht5 := hok.t
  dsimp only at ht5
  obtain ⟨H, hH⟩ : ∃ H, H = t * (prs l 0 0 : Int) := ⟨_, rfl⟩
  have hH1 : 1 ≤ H ∧ H ≤ 200 := by
    have h1 := Int.mul_le_mul ht5.1 (show (1 : Int) ≤ (prs l 0 0 : Int) by have := L.r; omega) (by omega) (by omega)
    have h2 := Int.mul_le_mul ht5.2 (show (prs l 0 0 : Int) ≤ 40 by omega) (by omega) (by omega)
    omega
  have hlb := pair_bd (d := 0) (B := 0) (D := D) (H := H) (by omega) (by omega) hH1.2 hD.2
  have hrep : (List.replicate (D * H).toNat false).length = (D * H).toNat := List.length_replicate
  have h0 := full_l0 hx H hH hH1.1 hH1.2 (t * (l.length : Int)).toNat 0 (List.replicate (D * H).toNat false) rfl (by have := groups_nn hG; omega) ⟨by rw [hrep]; omega, fun d B g' p' hd hB ha => by
    obtain ⟨g2, p2, k1, k2, _⟩ := inv_at hG hd (hH ▸ hB)
    rw [ha] at k2
    injection k2 with k2
    injection k2 with k2 k3
    subst k2 k3
    have k4 := (has_iff hG).1 k1
    rw [decide_eq_false (by omega)]
    unfold rdOf
    rw [List.getD_eq_getElem?_getD, List.getElem?_replicate]
    split <;> rfl⟩
  refine Ev.rounds (g := fun k => tegulalaw21_LayoutFull.f k a0) ?_
  unfold tegulalaw21_LayoutFull.f
  show Ev (fun k => (tegularef21_Small.f k a0).bind fun bt238 => _) true
  refine Ev.bind (Ev.of (tegularef21_Small.mono a0) hS) ?_
  dsimp only
  rw [lay_blocks hx, ← hH]
  simp only [Option.bind_some]
  rw [show H + s - s = H by omega, Q.wrap_small (i := H) (by omega) (by omega)]
  simp only [if_neg (show ¬ H < 1 by omega)]
  refine Ev.step (f := fun k => tegulalaw21_LayoutFull.l0 k H (List.replicate (D * H).toNat false) ((0 : Nat) : Int) D l t s) (fun k => ?_) h0
  simp only [tegulalaw21_LayoutFull.j0]
  rw [Q.wrap_small (i := D * H) (by omega) (by omega), if_neg (by rw [decide_eq_true_eq]; omega), if_pos (by omega), if_pos (by omega)]
  rfl

end Go.Proofs.Ytebnladkogkpfaa.Pure

namespace Go.Proofs.Ytebnladkogkpfaa.layoutFull
open Go.ChangeShapes Go.WideShapes Go.ChangeAt Go.RowKit
open Go.ChangeMaps (open_string shut_string)
set_option linter.unusedVariables false
theorem own : ownKnob Try.prog.godebug = none := by kernel_rfl
set_option maxRecDepth 100000 in
theorem lifted (os : Os) (started : os.Started) (H : Type) (enc : TypeId × Value → H) :
    ReturnsInHanded {} Try.checked os 6 .any (Rows.layoutFullSpec.pre6 enc Try.prog Try.f6 Rows.layoutFullRow.domain false) (Rows.layoutFullSpec.post enc Try.prog Try.f6 false true false false) := by
  refine returnsInHanded_of_change_sized (C := Try.checked) own started (by kernel_rfl) Try.func6
    (ChangeSpec.witness6 (enc := enc) (C := Try.checked) false ⟨#[], #[.int .u16 0], []⟩ 8 (by kernel_rfl) (by kernel_rfl) (by kernel_rfl) (by kernel_rfl)) ?_
  intro W base args ds gs before hval0 hW hcnd hsz0 _
  have hsz : (DataW.weightsEach Try.prog (Try.f6.params.toList ++ Rows.layoutFullSpec.plain.varTypes Try.prog) (ds ++ gs)).all (· ≤ reachBytes) = true := hsz0
  have hval : ∀ (j : Nat) t v, Try.f6.params[j]? = some t → args[j]? = some v → Value.okWide Try.prog W .any base t v := hval0
  have hW' := hW
  obtain ⟨p, q, hA0, hV, rfl, hfz, hnd⟩ := hW
  have hA : DataW.TrodAll enc Try.prog W 0 (fun _ => true) true Try.f6.params.toList args.toList ds p := hA0
  rw [Try.params6] at hA hval hsz
  obtain ⟨v0, vs0, d0, ds0, p0, q0, hargs, rfl, rfl, h0, r0⟩ := trodAll_cons hA
  obtain ⟨rfl, rfl, rfl⟩ := trodAll_nil r0
  obtain rfl : args = #[v0] := by cases args; simp_all
  obtain ⟨rfl, rfl⟩ := trodVars_none hV
  obtain ⟨a0, rfl, rfl, rfl, w0⟩ := open_int Try.underlying22 (hval 0 22 v0 rfl rfl) h0
  clear hA0 hval0 hsz0 hsz
  refine (Q.tegulalaw21_LayoutFull.walk Pure.LayoutFull a0 W w0).mono fun e W' ⟨he, bel⟩ => ?_
  subst he
  exact ⟨_, rfl, _, _, _, [], _, [], hW', trodAll_mk1 (shut_bool Try.underlying4 _), (trodAll_cons_mk (shut_int Try.underlying22 w0) trodAll_mk0), rfl, bel.frame _, fun h => by cases h⟩
theorem over : Rows.layoutFullRow.holds Try.pinned (OpenSpec.ofChange Rows.layoutFullSpec) :=
  OpenClaim.holds_of_wide 6 Try.f6 rfl rfl rfl rfl rfl rfl rfl ⟨rfl, rfl, rfl, rfl, rfl⟩ rfl rfl rfl rfl rfl (by kernel_rfl) Try.func6 (by kernel_rfl)
    (of_decide_eq_true (by kernel_rfl)) (by unfold Func.isWrapper; first | (rw [if_pos (by decide +kernel)]; kernel_rfl) | (rw [if_neg (by decide +kernel)]; exact ⟨rfl, rfl⟩))
    (fun os started H enc _ => lifted os started H enc)
theorem proved : Rows.LayoutFullSaid := over
#print axioms proved
end Go.Proofs.Ytebnladkogkpfaa.layoutFull
namespace Go.Proofs.Ytebnladkogkpfaa
/-- The row, under a short name, for the claim. -/
theorem layoutFull_holds : Rows.LayoutFullSaid := layoutFull.proved
end Go.Proofs.Ytebnladkogkpfaa
