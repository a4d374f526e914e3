/- The row of LayoutOnDisk holds: the law answers true on every input of its domain, on every machine; no conditions beyond those of the row itself. -/
-- Written by a program of this session (wip/tools/drv.py) for this claim: what the Go functions do, as Lean functions, and the walks.
import Derived.Test.YtebnladkogkpfaaRows
import Derived.Test.YtebnladkogkpfaaQ33
import Derived.WalkKit
import Derived.ProofKit
import Derived.OpenShut
import Derived.ShutString
import Derived.ChangeOld
import Derived.Below
import Derived.SizedLaws
import Derived.Test.YtebnladkogkpfaaPA
/-! LayoutOnDisk answers true. -/
namespace Go.Proofs.Ytebnladkogkpfaa.Pure
open Go.RowKit Go.Proofs.Ytebnladkogkpfaa.Q Go.Proofs.YtebnladkogkpfaaW.PrintWords Go.Proofs.YtebnladkogkpfaaW.PrintLast
open Go.Proofs.Ytebnladkogkpfaa.T (prs)

theorem ondisk_loop {D : Int} {l : List (List Int)} {t s : Int} {x : Nums} (h : Q.Good D l t s x) (d : Int) (L : List S52) (hL : L.length ≤ 65536)
    (hA : ∀ i (hi : i < L.length), hasB x L[i].f0 L[i].f1 = true ∧ homeN x L[i].f0 L[i].f1 = some (d, (i : Int)) ∧ atN x d (i : Int) = some (L[i].f0, L[i].f1)) :
    ∀ n i, L.length - i = n → i ≤ L.length → Ev (fun k => tegulalaw21_LayoutOnDisk.l0 k d L (i : Int) D l t s) true := by
  intro n
  induction n with
  | zero =>
    intro i hn hi
    refine Ev.step (f := fun _ => some true) (fun k => ?_) (Ev.now _)
    simp only [tegulalaw21_LayoutOnDisk.l0]
    rw [if_neg (by omega)]
  | succ n ih =>
    intro i hn hi
    have hlt : i < L.length := by omega
    obtain ⟨h1, h2, _⟩ := hA i hlt
    have hr : rd_T52 L (i : Int) = L[i] := by
      unfold rd_T52; rw [Int.toNat_natCast, List.getD_eq_getElem?_getD, List.getElem?_eq_getElem hlt]; rfl
    obtain ⟨d', B', e1, e2, _⟩ := inv_home h h1
    rw [h2] at e1
    injection e1 with e1
    injection e1 with e1 e3
    subst e1 e3
    refine Ev.step (f := fun k => (tegularef21_Home.f k D l t s L[i].f0 L[i].f1).bind fun bt374 => (if (!(bt374.1 == d) || (!(bt374.2 == (i : Int)))) = true then (some false) else (tegulalaw21_LayoutOnDisk.l0 k d L (wrap64 ((i : Int) + 1)) D l t s))) (fun k => ?_) (Ev.bind e2 ?_)
    · simp only [tegulalaw21_LayoutOnDisk.l0]
      rw [if_pos (by omega), if_pos (by omega), hr, refis_is h, h1]
      simp only [Option.bind_some, if_true]
    · have h3 := ih (i + 1) (by omega) (by omega)
      rw [Q.wrap_small (by omega) (by omega)]
      simpa using h3
theorem LayoutOnDisk : tegulalaw21_LayoutOnDisk.Pure := by
  intro a0 a1 w0 w1
  obtain ⟨⟨D, l, t, s⟩, hS, hok⟩ := small_is w0
  obtain ⟨x, hx⟩ := small_good hok
  have hG := good_of hx
  have hn := homes_nn hG
  refine Ev.rounds (g := fun k => tegulalaw21_LayoutOnDisk.f k a0 a1) ?_
  unfold tegulalaw21_LayoutOnDisk.f
  show Ev (fun k => (tegularef21_Small.f k a0).bind fun bt238 => _) true
  refine Ev.bind (Ev.of (tegularef21_Small.mono a0) hS) ?_
  dsimp only
  by_cases hd : 0 ≤ a1 ∧ a1 < D
  · obtain ⟨L, h1, h2, h3⟩ := lay_disk hx hd
    have h4 := ondisk_loop hG a1 L (by omega) h3 L.length 0 rfl (by omega)
    rw [h1]
    simp only [Option.bind_some]
    simp only [if_neg (show ¬ a1 < 0 by omega)]
    refine Ev.step (f := fun k => tegulalaw21_LayoutOnDisk.j1 k a1 L ((L.length : Int) != t * (prs l 0 0 : Int)) D l t s) (fun k => ?_) (Ev.step (f := fun k => tegulalaw21_LayoutOnDisk.l0 k a1 L ((0 : Nat) : Int) D l t s) (fun k => ?_) h4)
    · simp only [tegulalaw21_LayoutOnDisk.j0]
      rw [ref_homes hG, if_neg (by rw [decide_eq_true_eq]; omega), if_pos trivial]
      rfl
    · simp only [tegulalaw21_LayoutOnDisk.j1]
      rw [h2, if_neg (by simp)]
      rfl
  · have h1 : layout_OnDisk.f D l t s a1 = some ([], 2) := by
      unfold layout_OnDisk.f
      rw [hx, if_pos rfl, if_pos (by omega)]
    rw [h1]
    simp only [Option.bind_some]
    have h2 : ∀ k, tegulalaw21_LayoutOnDisk.j0 (k + 1) a1 [] 2 true D l t s = some true := fun k => by simp [tegulalaw21_LayoutOnDisk.j0]
    by_cases c : a1 < 0
    · refine Ev.step (f := fun _ => some true) (fun k => ?_) (Ev.now _)
      rw [if_pos c]
      exact h2 k
    · refine Ev.step (f := fun _ => some true) (fun k => ?_) (Ev.now _)
      rw [if_neg c, decide_eq_true (by omega)]
      exact h2 k

end Go.Proofs.Ytebnladkogkpfaa.Pure

namespace Go.Proofs.Ytebnladkogkpfaa.layoutOnDisk
open Go.ChangeShapes Go.WideShapes Go.ChangeAt Go.RowKit
open Go.ChangeMaps (open_string shut_string)
set_option linter.unusedVariables false
theorem own : ownKnob Try.prog.godebug = none := by kernel_rfl
set_option maxRecDepth 100000 in
theorem lifted (os : Os) (started : os.Started) (H : Type) (enc : TypeId × Value → H) :
    ReturnsInHanded {} Try.checked os 8 .any (Rows.layoutOnDiskSpec.pre6 enc Try.prog Try.f8 Rows.layoutOnDiskRow.domain false) (Rows.layoutOnDiskSpec.post enc Try.prog Try.f8 false true false false) := by
  refine returnsInHanded_of_change_sized (C := Try.checked) own started (by kernel_rfl) Try.func8
    (ChangeSpec.witness6 (enc := enc) (C := Try.checked) false ⟨#[], #[.int .u16 0, .int .i64 0], []⟩ 8 (by kernel_rfl) (by kernel_rfl) (by kernel_rfl) (by kernel_rfl)) ?_
  intro W base args ds gs before hval0 hW hcnd hsz0 _
  have hsz : (DataW.weightsEach Try.prog (Try.f8.params.toList ++ Rows.layoutOnDiskSpec.plain.varTypes Try.prog) (ds ++ gs)).all (· ≤ reachBytes) = true := hsz0
  have hval : ∀ (j : Nat) t v, Try.f8.params[j]? = some t → args[j]? = some v → Value.okWide Try.prog W .any base t v := hval0
  have hW' := hW
  obtain ⟨p, q, hA0, hV, rfl, hfz, hnd⟩ := hW
  have hA : DataW.TrodAll enc Try.prog W 0 (fun _ => true) true Try.f8.params.toList args.toList ds p := hA0
  rw [Try.params8] at hA hval hsz
  obtain ⟨v0, vs0, d0, ds0, p0, q0, hargs, rfl, rfl, h0, r0⟩ := trodAll_cons hA
  obtain ⟨v1, vs1, d1, ds1, p1, q1, rfl, rfl, rfl, h1, r1⟩ := trodAll_cons r0
  obtain ⟨rfl, rfl, rfl⟩ := trodAll_nil r1
  obtain rfl : args = #[v0, v1] := by cases args; simp_all
  obtain ⟨rfl, rfl⟩ := trodVars_none hV
  obtain ⟨a0, rfl, rfl, rfl, w0⟩ := open_int Try.underlying22 (hval 0 22 v0 rfl rfl) h0
  obtain ⟨a1, rfl, rfl, rfl, w1⟩ := open_int Try.underlying3 (hval 1 3 v1 rfl rfl) h1
  clear hA0 hval0 hsz0 hsz
  refine (Q.tegulalaw21_LayoutOnDisk.walk Pure.LayoutOnDisk a0 a1 W w0 w1).mono fun e W' ⟨he, bel⟩ => ?_
  subst he
  exact ⟨_, rfl, _, _, _, [], _, [], hW', trodAll_mk1 (shut_bool Try.underlying4 _), (trodAll_cons_mk (shut_int Try.underlying22 w0) (trodAll_cons_mk (shut_int Try.underlying3 w1) trodAll_mk0)), rfl, bel.frame _, fun h => by cases h⟩
theorem over : Rows.layoutOnDiskRow.holds Try.pinned (OpenSpec.ofChange Rows.layoutOnDiskSpec) :=
  OpenClaim.holds_of_wide 8 Try.f8 rfl rfl rfl rfl rfl rfl rfl ⟨rfl, rfl, rfl, rfl, rfl⟩ rfl rfl rfl rfl rfl (by kernel_rfl) Try.func8 (by kernel_rfl)
    (of_decide_eq_true (by kernel_rfl)) (by unfold Func.isWrapper; first | (rw [if_pos (by decide +kernel)]; kernel_rfl) | (rw [if_neg (by decide +kernel)]; exact ⟨rfl, rfl⟩))
    (fun os started H enc _ => lifted os started H enc)
theorem proved : Rows.LayoutOnDiskSaid := over
#print axioms proved
end Go.Proofs.Ytebnladkogkpfaa.layoutOnDisk
namespace Go.Proofs.Ytebnladkogkpfaa
/-- The row, under a short name, for the claim. -/
theorem layoutOnDisk_holds : Rows.LayoutOnDiskSaid := layoutOnDisk.proved
end Go.Proofs.Ytebnladkogkpfaa
