/- The row of LayoutApart holds: the law answers true on every input of its domain, on every machine; no conditions beyond those of the row itself. -/
-- Written by a program of this session (wip/tools/drv.py) for this claim: what the Go functions do, as Lean functions, and the walks.
import Derived.Test.YtebnladkogkpfaaRows
import Derived.Test.YtebnladkogkpfaaQ26
import Derived.WalkKit
import Derived.ProofKit
import Derived.OpenShut
import Derived.ShutString
import Derived.ChangeOld
import Derived.Below
import Derived.SizedLaws
import Derived.Test.YtebnladkogkpfaaPA
/-! LayoutApart answers true. -/
namespace Go.Proofs.Ytebnladkogkpfaa.Pure
open Go.RowKit Go.Proofs.Ytebnladkogkpfaa.Q Go.Proofs.YtebnladkogkpfaaW.PrintWords Go.Proofs.YtebnladkogkpfaaW.PrintLast
open Go.Proofs.Ytebnladkogkpfaa.T (prs)

theorem apart_loop {D : Int} {l : List (List Int)} {t s : Int} {x : Nums} (hx : Q.measure D l t s = (x, true)) (g : Int) (hg : 0 ≤ g ∧ g < t * (l.length : Int)) :
    ∀ n (p : Nat) (seen : List Bool), headLen l - p = n → p ≤ headLen l → (seen.length : Int) = D →
      (∀ (p' : Nat) d B, p ≤ p' → p' < headLen l → homeN x g (p' : Int) = some (d, B) → rdOf false seen d = false) →
      Ev (fun k => tegulalaw21_LayoutApart.l0 k g seen (p : Int) D l t s) true := by
  have h := good_of hx
  have L := lim_of h
  have hn := homes_nn h
  intro n
  induction n with
  | zero =>
    intro p seen e hp hl hs
    refine Ev.step (f := fun _ => some true) (fun k => ?_) (Ev.now _)
    simp only [tegulalaw21_LayoutApart.l0]
    rw [ref_width h]
    simp only [Option.bind_some]
    rw [if_neg (by omega)]
  | succ n ih =>
    intro p seen e hp hl hs
    have hlt : p < headLen l := by omega
    have hh : hasB x g (p : Int) = true := (has_iff h).2 ⟨hg.1, hg.2, by omega, by omega⟩
    obtain ⟨d, B, h1, h2, h3, h4, h5, _⟩ := inv_home h hh
    have h6 := lay_home hx hh h1
    have h7 := lay_at hx h3 h4 h5
    have h8 := hs p d B (Nat.le_refl _) hlt h1
    have h9 := ih (p + 1) (seen.set d.toNat true) (by omega) (by omega) (by rw [List.length_set]; exact hl) (fun p' d' B' k1 k2 k3 => by
      have hh' : hasB x g (p' : Int) = true := (has_iff h).2 ⟨hg.1, hg.2, by omega, by omega⟩
      have hne : d' ≠ d := by
        intro e
        subst e
        have := same_place h hh hh' h1 k3
        omega
      obtain ⟨d2, B2, e1, _, e2, _⟩ := inv_home h hh'
      rw [k3] at e1
      injection e1 with e1
      injection e1 with e1 e4
      subst e1
      have k4 := hs p' d' B' (by omega) k2 k3
      unfold rdOf at k4 ⊢
      rw [List.getD_eq_getElem?_getD] at k4 ⊢
      rw [List.getElem?_set_ne (by omega)]
      exact k4)
    have hW := L.W
    refine Ev.step (f := fun k => tegulalaw21_LayoutApart.j1 k g seen (p : Int) false D l t s d B) (fun k => ?_) (Ev.step (f := fun k => tegulalaw21_LayoutApart.l0 k g (seen.set d.toNat true) ((p + 1 : Nat) : Int) D l t s) (fun k => ?_) h9)
    · simp only [tegulalaw21_LayoutApart.l0]
      rw [ref_width h, h6, ref_homes h]
      simp only [Option.bind_some, if_true]
      rw [if_pos (by omega), if_neg (by omega), if_neg (by omega), if_pos (by omega), if_pos (by omega), h8, if_neg (by decide), if_neg (by omega), decide_eq_false (by omega)]
    · simp only [tegulalaw21_LayoutApart.j1]
      rw [if_neg (by decide), if_pos (by omega), if_pos (by omega), h7]
      simp only [Option.bind_some, if_true]
      rw [Q.wrap_small (by omega) (by omega)]
      rfl
theorem LayoutApart : tegulalaw21_LayoutApart.Pure := by
  intro a0 a1 w0 w1
  obtain ⟨⟨D, l, t, s⟩, hS, hok⟩ := small_is w0
  obtain ⟨x, hx⟩ := small_good hok
  have hG := good_of hx
  have hgn := groups_nn hG
  have hb : 0 ≤ a1 ∧ a1 < 65536 := by
    simp only [Lit.wf, Bool.and_eq_true, decide_eq_true_eq] at w1
    have h1 : IntKind.u16.min = 0 := by decide
    have h2 : IntKind.u16.max = 65535 := by decide
    omega
  have hD := (lim_of hG).rows.a
  refine Ev.rounds (g := fun k => tegulalaw21_LayoutApart.f k a0 a1) ?_
  unfold tegulalaw21_LayoutApart.f
  show Ev (fun k => (tegularef21_Small.f k a0).bind fun bt238 => _) true
  refine Ev.bind (Ev.of (tegularef21_Small.mono a0) hS) ?_
  dsimp only
  rw [ref_groups hG]
  simp only [Option.bind_some]
  have g0 : 0 ≤ Int.tmod (wrap64 a1) (t * (l.length : Int)) ∧ Int.tmod (wrap64 a1) (t * (l.length : Int)) < t * (l.length : Int) := by
    rw [Q.wrap_small (by omega) (by omega), Int.tmod_eq_emod_of_nonneg (by omega)]
    exact ⟨Int.emod_nonneg _ (by omega), Int.emod_lt_of_pos _ (by omega)⟩
  simp only [if_neg (show ¬ t * (l.length : Int) = 0 by omega), if_pos (show 0 ≤ D by omega), if_pos (show D.toNat ≤ 281474976710656 by omega)]
  refine apart_loop hx _ g0 (headLen l) 0 _ rfl (by omega) (by rw [List.length_replicate]; omega) (fun p' d B _ _ _ => ?_)
  unfold rdOf
  rw [List.getD_eq_getElem?_getD, List.getElem?_replicate]
  split <;> rfl

end Go.Proofs.Ytebnladkogkpfaa.Pure

namespace Go.Proofs.Ytebnladkogkpfaa.layoutApart
open Go.ChangeShapes Go.WideShapes Go.ChangeAt Go.RowKit
open Go.ChangeMaps (open_string shut_string)
set_option linter.unusedVariables false
theorem own : ownKnob Try.prog.godebug = none := by kernel_rfl
set_option maxRecDepth 100000 in
theorem lifted (os : Os) (started : os.Started) (H : Type) (enc : TypeId × Value → H) :
    ReturnsInHanded {} Try.checked os 5 .any (Rows.layoutApartSpec.pre6 enc Try.prog Try.f5 Rows.layoutApartRow.domain false) (Rows.layoutApartSpec.post enc Try.prog Try.f5 false true false false) := by
  refine returnsInHanded_of_change_sized (C := Try.checked) own started (by kernel_rfl) Try.func5
    (ChangeSpec.witness6 (enc := enc) (C := Try.checked) false ⟨#[], #[.int .u16 0, .int .u16 0], []⟩ 8 (by kernel_rfl) (by kernel_rfl) (by kernel_rfl) (by kernel_rfl)) ?_
  intro W base args ds gs before hval0 hW hcnd hsz0 _
  have hsz : (DataW.weightsEach Try.prog (Try.f5.params.toList ++ Rows.layoutApartSpec.plain.varTypes Try.prog) (ds ++ gs)).all (· ≤ reachBytes) = true := hsz0
  have hval : ∀ (j : Nat) t v, Try.f5.params[j]? = some t → args[j]? = some v → Value.okWide Try.prog W .any base t v := hval0
  have hW' := hW
  obtain ⟨p, q, hA0, hV, rfl, hfz, hnd⟩ := hW
  have hA : DataW.TrodAll enc Try.prog W 0 (fun _ => true) true Try.f5.params.toList args.toList ds p := hA0
  rw [Try.params5] at hA hval hsz
  obtain ⟨v0, vs0, d0, ds0, p0, q0, hargs, rfl, rfl, h0, r0⟩ := trodAll_cons hA
  obtain ⟨v1, vs1, d1, ds1, p1, q1, rfl, rfl, rfl, h1, r1⟩ := trodAll_cons r0
  obtain ⟨rfl, rfl, rfl⟩ := trodAll_nil r1
  obtain rfl : args = #[v0, v1] := by cases args; simp_all
  obtain ⟨rfl, rfl⟩ := trodVars_none hV
  obtain ⟨a0, rfl, rfl, rfl, w0⟩ := open_int Try.underlying22 (hval 0 22 v0 rfl rfl) h0
  obtain ⟨a1, rfl, rfl, rfl, w1⟩ := open_int Try.underlying22 (hval 1 22 v1 rfl rfl) h1
  clear hA0 hval0 hsz0 hsz
  refine (Q.tegulalaw21_LayoutApart.walk Pure.LayoutApart a0 a1 W w0 w1).mono fun e W' ⟨he, bel⟩ => ?_
  subst he
  exact ⟨_, rfl, _, _, _, [], _, [], hW', trodAll_mk1 (shut_bool Try.underlying4 _), (trodAll_cons_mk (shut_int Try.underlying22 w0) (trodAll_cons_mk (shut_int Try.underlying22 w1) trodAll_mk0)), rfl, bel.frame _, fun h => by cases h⟩
theorem over : Rows.layoutApartRow.holds Try.pinned (OpenSpec.ofChange Rows.layoutApartSpec) :=
  OpenClaim.holds_of_wide 5 Try.f5 rfl rfl rfl rfl rfl rfl rfl ⟨rfl, rfl, rfl, rfl, rfl⟩ rfl rfl rfl rfl rfl (by kernel_rfl) Try.func5 (by kernel_rfl)
    (of_decide_eq_true (by kernel_rfl)) (by unfold Func.isWrapper; first | (rw [if_pos (by decide +kernel)]; kernel_rfl) | (rw [if_neg (by decide +kernel)]; exact ⟨rfl, rfl⟩))
    (fun os started H enc _ => lifted os started H enc)
theorem proved : Rows.LayoutApartSaid := over
#print axioms proved
end Go.Proofs.Ytebnladkogkpfaa.layoutApart
namespace Go.Proofs.Ytebnladkogkpfaa
/-- The row, under a short name, for the claim. -/
theorem layoutApart_holds : Rows.LayoutApartSaid := layoutApart.proved
end Go.Proofs.Ytebnladkogkpfaa
