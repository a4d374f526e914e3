/- The row of LayoutValid holds: the law answers true on every input of its domain, on every machine; no conditions beyond those of the row itself. -/
import Derived.Test.YtebnladkogkpfaaRows
import Derived.Test.YtebnladkogkpfaaQ32
import Derived.WalkKit
import Derived.ProofKit
import Derived.OpenShut
import Derived.ShutString
import Derived.ChangeOld
import Derived.Below
import Derived.SizedLaws
import Derived.Test.YtebnladkogkpfaaPV
/-! LayoutValid answers true. -/
namespace Go.Proofs.Ytebnladkogkpfaa.Pure
open Go.RowKit Go.Proofs.Ytebnladkogkpfaa.Q Go.Proofs.YtebnladkogkpfaaW.PrintWords Go.Proofs.YtebnladkogkpfaaW.PrintLast
open Go.Proofs.Ytebnladkogkpfaa.T (prs)

variable {D : Int} {l : List (List Int)} {t s : Int} {x : Nums}
theorem slots_bd (h : Q.Good D l t s x) : 0 ≤ t * (l.length : Int) * ((headLen l : Int) - 3) ∧ t * (l.length : Int) * ((headLen l : Int) - 3) ≤ 65536 := by
  have b := bds_of h
  have e1 := x_n h
  have e2 := x_w h
  have := b.s
  rwa [e1, e2] at this
theorem ref_slots (h : Q.Good D l t s x) : tegularef21_Slots.f D l t s = some (t * (l.length : Int) * ((headLen l : Int) - 3)) := by
  unfold tegularef21_Slots.f
  rw [ref_groups h, ref_width h]
  have b := slots_bd h
  have hW := (lim_of h).W
  simp only [Option.bind_some]
  rw [Q.wrap_small (i := (headLen l : Int) - 3) (by omega) (by omega), Q.wrap_small (by omega) (by omega)]
theorem lay_data (hx : Q.measure D l t s = (x, true)) : layout_Data.f D l t s = some ((headLen l : Int) - 3) := by
  unfold layout_Data.f
  rw [hx, if_pos rfl, data_is (bds_of (good_of hx)), x_w (good_of hx)]
theorem lay_groups (hx : Q.measure D l t s = (x, true)) : layout_Groups.f D l t s = some (t * (l.length : Int)) := by
  unfold layout_Groups.f
  rw [hx, groups_is (bds_of (good_of hx)), x_n (good_of hx)]
theorem lay_slots (hx : Q.measure D l t s = (x, true)) : layout_Slots.f D l t s = some (t * (l.length : Int) * ((headLen l : Int) - 3)) := by
  unfold layout_Slots.f
  rw [lay_groups hx, lay_data hx]
  have b := slots_bd (good_of hx)
  simp only [Option.bind_some]
  rw [Q.wrap_small (by omega) (by omega)]
theorem lay_blocks (hx : Q.measure D l t s = (x, true)) : layout_Blocks.f D l t s = some (t * (prs l 0 0 : Int) + s) := by
  unfold layout_Blocks.f
  rw [hx, x_c (good_of hx)]
theorem lay_width (hx : Q.measure D l t s = (x, true)) : layout_Width.f D l t s = some (headLen l : Int) := by
  unfold layout_Width.f
  rw [hx, x_w (good_of hx)]
theorem no_nums (h : (Q.measure D l t s).2 = false) : Q.measure D l t s = (noNums, false) := by
  unfold Q.measure at h ⊢
  split
  · rename_i c
    rw [if_pos c] at h
    unfold Q.measD at h ⊢
    split
    · rename_i c2
      rw [if_pos c2] at h
      cases h
    · rfl
  · rfl
theorem LayoutValid (D : Int) (l : List (List Int)) (t s : Int) : ∃ k, tegulalaw21_LayoutValid.f k D l t s = some true := by
  refine Ev.rounds (g := fun k => tegulalaw21_LayoutValid.f k D l t s) ?_
  unfold tegulalaw21_LayoutValid.f
  show Ev (fun k => (tegulalaw21_few.f k D l t s).bind fun t441 => _) true
  obtain ⟨b, hb, _⟩ := few_ev D l t s
  refine Ev.bind hb ?_
  cases b with
  | false =>
    simp only [if_neg (show ¬ false = true by decide)]
    exact Ev.now _
  | true =>
    simp only [if_true]
    rw [valid_is]
    unfold layout_Valid.f
    simp only [Option.bind_some, bne_self_eq_false, if_neg (show ¬ false = true by decide)]
    cases hv : (Q.measure D l t s).2 with
    | true =>
      have hx : Q.measure D l t s = ((Q.measure D l t s).1, true) := by rw [← hv]
      have hG := good_of hx
      have hW := (lim_of hG).W
      simp only [if_true]
      rw [lay_width hx, ref_width hG, lay_data hx, lay_groups hx, ref_groups hG, lay_slots hx, ref_slots hG, lay_blocks hx, ref_blocks hG]
      simp only [Option.bind_some]
      rw [Q.wrap_small (i := (headLen l : Int) - 3) (by omega) (by omega)]
      simp only [if_true, beq_self_eq_true]
      exact Ev.now _
    | false =>
      have hx := no_nums hv
      have e1 : layout_Width.f D l t s = some 0 := by unfold layout_Width.f; rw [hx]; rfl
      have e2 : layout_Data.f D l t s = some 0 := by unfold layout_Data.f; rw [hx]; rfl
      have e3 : layout_Groups.f D l t s = some 0 := by unfold layout_Groups.f; rw [hx]; unfold groupsN layout_numbers_groups.f; exact congrArg some (show wrap64 ((0 : Int) * 0) = 0 from Q.wrap_small (by omega) (by omega))
      have e4 : layout_Slots.f D l t s = some 0 := by unfold layout_Slots.f; rw [e3, e2]; exact congrArg some (show wrap64 ((0 : Int) * 0) = 0 from Q.wrap_small (by omega) (by omega))
      have e5 : layout_Blocks.f D l t s = some 0 := by unfold layout_Blocks.f; rw [hx]; rfl
      simp only [if_neg (show ¬ false = true by decide)]
      rw [e1, e2, e3, e4, e5]
      exact Ev.now _
end Go.Proofs.Ytebnladkogkpfaa.Pure

namespace Go.Proofs.Ytebnladkogkpfaa.layoutValid
open Go.ChangeShapes Go.WideShapes Go.ChangeAt Go.RowKit
open Go.Proofs.YtebnladkogkpfaaW.PrintWords (Kd)
set_option linter.unusedVariables false
theorem own : ownKnob Try.prog.godebug = none := by kernel_rfl
theorem laidOut : laidOutB Try.prog = true := by kernel_rfl
theorem walk (a0 : Int) (A : Option Addr) (c : Nat) (l : List (List Int)) (a2 a3 : Int) (w : World) (hr : (Kd.slice 3 (Kd.int .i64)).C w A l.length l) (hc : l.length ≤ c) :
    Calls Try.prog 7 #[.agg #[.int .i64 a0, .slice A l.length c, .int .i64 a2, .int .i64 a3]] w fun e w' => e = .returned (.bool true) ∧ Below w.heap.size w w' := by
  obtain ⟨k, h⟩ := Pure.LayoutValid a0 l a2 a3
  refine (Q.tegulalaw21_LayoutValid.calls k a0 A c l a2 a3 true rfl w hr hc h).mono ?_
  rintro e w' ⟨rfl, hd⟩
  exact ⟨rfl, hd⟩
set_option maxRecDepth 100000 in
theorem lifted (os : Os) (started : os.Started) (H : Type) (enc : TypeId × Value → H) :
    ReturnsInHanded {} Try.checked os 7 .any (Rows.layoutValidSpec.pre6 enc Try.prog Try.f7 Rows.layoutValidRow.domain false) (Rows.layoutValidSpec.post enc Try.prog Try.f7 false true false false) := by
  refine returnsInHanded_of_change_sized (C := Try.checked) own started (by kernel_rfl) Try.func7
    (ChangeSpec.witness6 (enc := enc) (C := Try.checked) false ⟨#[], #[.agg #[.int .i64 0, .slice none 0 0, .int .i64 0, .int .i64 0]], []⟩ 8 (by kernel_rfl) (by kernel_rfl) (by kernel_rfl) (by kernel_rfl)) ?_
  intro W base args ds gs before hval0 hW hcnd hsz0 _
  have hval : ∀ (j : Nat) t v, Try.f7.params[j]? = some t → args[j]? = some v → Value.okWide Try.prog W .any base t v := hval0
  have hW' := hW
  obtain ⟨p, q, hA0, hV, rfl, hfz, hnd⟩ := hW
  have hA : DataW.TrodAll enc Try.prog W 0 (fun _ => true) true Try.f7.params.toList args.toList ds p := hA0
  rw [Try.params7] at hA hval
  obtain ⟨v0, vs0, d0, ds0, p0, q0, hargs, rfl, rfl, h0, r0⟩ := trodAll_cons hA
  obtain ⟨rfl, rfl, rfl⟩ := trodAll_nil r0
  obtain rfl : args = #[v0] := by cases args; simp_all
  obtain ⟨rfl, rfl⟩ := trodVars_none hV
  have k0 := h0
  have lt0 : ∀ x ∈ p0, x.block < W.heap.size := by obtain ⟨m, hm⟩ := k0; exact DataW.trod_lt m _ _ _ hm
  obtain ⟨a0, A, c, l, a2, a3, rfl, hc, hr⟩ := Lay.open_layout (hval 0 28 v0 rfl rfl) h0
  clear hA0 hval0 hsz0
  refine (walk a0 A c l a2 a3 W hr hc).mono fun e W' ⟨he, bel⟩ => ?_
  subst he
  exact ⟨_, rfl, _, _, _, [], _, [], hW', trodAll_mk1 (shut_bool Try.underlying4 _), (trodAll_cons_mk (Below.trod laidOut (by kernel_rfl) (of_decide_eq_true (by kernel_rfl)) k0 bel lt0) trodAll_mk0), rfl, bel.frame _, fun h => by cases h⟩
theorem over : Rows.layoutValidRow.holds Try.pinned (OpenSpec.ofChange Rows.layoutValidSpec) :=
  OpenClaim.holds_of_wide 7 Try.f7 rfl rfl rfl rfl rfl rfl rfl ⟨rfl, rfl, rfl, rfl, rfl⟩ rfl rfl rfl rfl rfl (by kernel_rfl) Try.func7 (by kernel_rfl)
    (of_decide_eq_true (by kernel_rfl)) (by unfold Func.isWrapper; first | (rw [if_pos (by decide +kernel)]; kernel_rfl) | (rw [if_neg (by decide +kernel)]; exact ⟨rfl, rfl⟩))
    (fun os started H enc _ => lifted os started H enc)
theorem proved : Rows.LayoutValidSaid := over
#print axioms proved
end Go.Proofs.Ytebnladkogkpfaa.layoutValid
namespace Go.Proofs.Ytebnladkogkpfaa
/-- The row, under a short name, for the claim. -/
theorem layoutValid_holds : Rows.LayoutValidSaid := layoutValid.proved
end Go.Proofs.Ytebnladkogkpfaa
