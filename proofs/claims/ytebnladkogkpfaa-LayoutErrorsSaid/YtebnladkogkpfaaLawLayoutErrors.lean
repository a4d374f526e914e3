/- The row of LayoutErrors holds: the law answers true on every input of its domain, on every machine; no conditions beyond those of the row itself. -/
import Derived.Test.YtebnladkogkpfaaRows
import Derived.Test.YtebnladkogkpfaaQ39
import Derived.WalkKit
import Derived.ProofKit
import Derived.OpenShut
import Derived.ShutString
import Derived.ChangeOld
import Derived.Below
import Derived.SizedLaws
import Derived.Test.YtebnladkogkpfaaPV
/-! LayoutErrors answers true. -/
namespace Go.Proofs.Ytebnladkogkpfaa.Pure
open Go.RowKit Go.Proofs.Ytebnladkogkpfaa.Q Go.Proofs.YtebnladkogkpfaaW.PrintWords Go.Proofs.YtebnladkogkpfaaW.PrintLast

theorem errors_j (D : Int) (l : List (List Int)) (t s a : Int) (b : Bool) (hb : b = false → (Q.measure D l t s).2 = false) : Ev (fun k => tegulalaw21_LayoutErrors.j0 k a b D l t s) true := by
  refine Ev.step (f := fun _ => some true) (fun k => ?_) (Ev.now _)
  simp only [tegulalaw21_LayoutErrors.j0]
  cases b with
  | true => rw [if_pos rfl]
  | false =>
    have h := hb rfl
    have hn : ¬ (Q.measure D l t s).2 = true := by rw [h]; decide
    have e1 : layout_Home.f D l t s a a = some (0, 0, 1) := by unfold layout_Home.f; rw [if_neg hn]
    have e2 : layout_At.f D l t s a a = some (0, 0, 1) := by unfold layout_At.f; rw [if_neg hn]
    have e3 : layout_Slot.f D l t s a = some (0, 0, 1) := by unfold layout_Slot.f; rw [if_neg hn]
    have e4 : layout_Number.f D l t s a a = some (0, 1) := by unfold layout_Number.f; rw [if_neg hn]
    have e5 : layout_OnDisk.f D l t s a = some ([], 1) := by unfold layout_OnDisk.f; rw [if_neg hn]
    rw [e1, e2, e3, e4, e5]
    rfl
theorem LayoutErrors (D : Int) (l : List (List Int)) (t s a : Int) : ∃ k, tegulalaw21_LayoutErrors.f k D l t s a = some true := by
  refine Ev.rounds (g := fun k => tegulalaw21_LayoutErrors.f k D l t s a) ?_
  unfold tegulalaw21_LayoutErrors.f
  show Ev (fun k => (tegulalaw21_few.f k D l t s).bind fun t441 => _) true
  obtain ⟨b, hb, _⟩ := few_ev D l t s
  refine Ev.bind hb ?_
  cases b with
  | true =>
    simp only [if_true]
    rw [valid_is]
    exact errors_j D l t s a _ (fun h => h)
  | false =>
    simp only [if_neg (show ¬ false = true by decide)]
    exact errors_j D l t s a true (fun h => by cases h)
end Go.Proofs.Ytebnladkogkpfaa.Pure

namespace Go.Proofs.Ytebnladkogkpfaa.layoutErrors
open Go.ChangeShapes Go.WideShapes Go.ChangeAt Go.RowKit
open Go.Proofs.YtebnladkogkpfaaW.PrintWords (Kd)
set_option linter.unusedVariables false
theorem own : ownKnob Try.prog.godebug = none := by kernel_rfl
theorem laidOut : laidOutB Try.prog = true := by kernel_rfl
theorem walk (a0 : Int) (A : Option Addr) (c : Nat) (l : List (List Int)) (a2 a3 a : Int) (w : World) (hr : (Kd.slice 3 (Kd.int .i64)).C w A l.length l) (hc : l.length ≤ c) :
    Calls Try.prog 12 #[.agg #[.int .i64 a0, .slice A l.length c, .int .i64 a2, .int .i64 a3], .int .i64 a] w fun e w' => e = .returned (.bool true) ∧ Below w.heap.size w w' := by
  obtain ⟨k, h⟩ := Pure.LayoutErrors a0 l a2 a3 a
  refine (Q.tegulalaw21_LayoutErrors.calls k a0 A c l a2 a3 a true w hr hc h).mono ?_
  rintro e w' ⟨rfl, hd⟩
  exact ⟨rfl, hd⟩
set_option maxRecDepth 100000 in
theorem lifted (os : Os) (started : os.Started) (H : Type) (enc : TypeId × Value → H) :
    ReturnsInHanded {} Try.checked os 12 .any (Rows.layoutErrorsSpec.pre6 enc Try.prog Try.f12 Rows.layoutErrorsRow.domain false) (Rows.layoutErrorsSpec.post enc Try.prog Try.f12 false true false false) := by
  refine returnsInHanded_of_change_sized (C := Try.checked) own started (by kernel_rfl) Try.func12
    (ChangeSpec.witness6 (enc := enc) (C := Try.checked) false ⟨#[], #[.agg #[.int .i64 0, .slice none 0 0, .int .i64 0, .int .i64 0], .int .i64 0], []⟩ 8 (by kernel_rfl) (by kernel_rfl) (by kernel_rfl) (by kernel_rfl)) ?_
  intro W base args ds gs before hval0 hW hcnd hsz0 _
  have hval : ∀ (j : Nat) t v, Try.f12.params[j]? = some t → args[j]? = some v → Value.okWide Try.prog W .any base t v := hval0
  have hW' := hW
  obtain ⟨p, q, hA0, hV, rfl, hfz, hnd⟩ := hW
  have hA : DataW.TrodAll enc Try.prog W 0 (fun _ => true) true Try.f12.params.toList args.toList ds p := hA0
  rw [Try.params12] at hA hval
  obtain ⟨v0, vs0, d0, ds0, p0, q0, hargs, rfl, rfl, h0, r0⟩ := trodAll_cons hA
  obtain ⟨v1, vs1, d1, ds1, p1, q1, rfl, rfl, rfl, h1, r1⟩ := trodAll_cons r0
  obtain ⟨rfl, rfl, rfl⟩ := trodAll_nil r1
  obtain rfl : args = #[v0, v1] := by cases args; simp_all
  obtain ⟨rfl, rfl⟩ := trodVars_none hV
  have k0 := h0
  have lt0 : ∀ x ∈ p0, x.block < W.heap.size := by obtain ⟨m, hm⟩ := k0; exact DataW.trod_lt m _ _ _ hm
  obtain ⟨a0, A, c, l, a2, a3, rfl, hc, hr⟩ := Lay.open_layout (hval 0 28 v0 rfl rfl) h0
  obtain ⟨a, rfl, rfl, rfl, w1⟩ := open_int Try.underlying3 (hval 1 3 v1 rfl rfl) h1
  clear hA0 hval0 hsz0
  refine (walk a0 A c l a2 a3 a W hr hc).mono fun e W' ⟨he, bel⟩ => ?_
  subst he
  exact ⟨_, rfl, _, _, _, [], _, [], hW', trodAll_mk1 (shut_bool Try.underlying4 _), (trodAll_cons_mk (Below.trod laidOut (by kernel_rfl) (of_decide_eq_true (by kernel_rfl)) k0 bel lt0) (trodAll_cons_mk (shut_int Try.underlying3 w1) trodAll_mk0)), rfl, bel.frame _, fun h => by cases h⟩
theorem over : Rows.layoutErrorsRow.holds Try.pinned (OpenSpec.ofChange Rows.layoutErrorsSpec) :=
  OpenClaim.holds_of_wide 12 Try.f12 rfl rfl rfl rfl rfl rfl rfl ⟨rfl, rfl, rfl, rfl, rfl⟩ rfl rfl rfl rfl rfl (by kernel_rfl) Try.func12 (by kernel_rfl)
    (of_decide_eq_true (by kernel_rfl)) (by unfold Func.isWrapper; first | (rw [if_pos (by decide +kernel)]; kernel_rfl) | (rw [if_neg (by decide +kernel)]; exact ⟨rfl, rfl⟩))
    (fun os started H enc _ => lifted os started H enc)
theorem proved : Rows.LayoutErrorsSaid := over
#print axioms proved
end Go.Proofs.Ytebnladkogkpfaa.layoutErrors
namespace Go.Proofs.Ytebnladkogkpfaa
/-- The row, under a short name, for the claim. -/
theorem layoutErrors_holds : Rows.LayoutErrorsSaid := layoutErrors.proved
end Go.Proofs.Ytebnladkogkpfaa
