/- The row of LayoutSlots holds: the law answers true on every input of its domain, on every machine; no conditions beyond those of the row itself. -/
import Derived.Test.YtebnladkogkpfaaRows
import Derived.Test.YtebnladkogkpfaaQ38
import Derived.WalkKit
import Derived.ProofKit
import Derived.OpenShut
import Derived.ShutString
import Derived.ChangeOld
import Derived.Below
import Derived.SizedLaws
import Derived.WideKeyArr2
import Derived.Test.YtebnladkogkpfaaPA
/-! LayoutSlots answers true. -/
namespace Go.Proofs.Ytebnladkogkpfaa.Pure
open Go.RowKit Go.Proofs.Ytebnladkogkpfaa.Q Go.Proofs.YtebnladkogkpfaaW.PrintWords Go.Proofs.YtebnladkogkpfaaW.PrintLast
open Go.Proofs.Ytebnladkogkpfaa.T (prs)

variable {D : Int} {l : List (List Int)} {t s : Int} {x : Nums}
theorem slots_bd (h : Q.Good D l t s x) : 0 ≤ t * (l.length : Int) * ((headLen l : Int) - 3) ∧ t * (l.length : Int) * ((headLen l : Int) - 3) ≤ 65536 := by
  have b := bds_of h
  have e1 := x_n h
  have e2 := x_w h
  have := b.s
  rwa [e1, e2] at this
theorem ref_slots (h : Q.Good D l t s x) : tegularef21_Slots.f D l t s = some (t * (l.length : Int) * ((headLen l : Int) - 3)) := by
  unfold tegularef21_Slots.f
  rw [ref_groups h, ref_width h]
  have b := slots_bd h
  have hW := (lim_of h).W
  simp only [Option.bind_some]
  rw [Q.wrap_small (i := (headLen l : Int) - 3) (by omega) (by omega), Q.wrap_small (by omega) (by omega)]
theorem lay_number (hx : Q.measure D l t s = (x, true)) (g p : Int) : layout_Number.f D l t s g p = some (if hasB x g p = true then (if p ≥ (headLen l : Int) - 3 then (0, 9) else (g * ((headLen l : Int) - 3) + p, 0)) else (0, 2)) := by
  unfold layout_Number.f
  rw [hx, if_pos rfl]
  dsimp only
  rw [x_w (good_of hx)]
theorem lay_slot (hx : Q.measure D l t s = (x, true)) (a : Int) : layout_Slot.f D l t s a = some (if a < 0 ∨ a ≥ t * (l.length : Int) * ((headLen l : Int) - 3) then (0, 0, 2) else (a / ((headLen l : Int) - 3), a % ((headLen l : Int) - 3), 0)) := by
  unfold layout_Slot.f
  rw [hx, if_pos rfl]
  dsimp only
  rw [x_w (good_of hx), x_n (good_of hx)]
theorem num_bd {g p G w : Int} (hg : 0 ≤ g ∧ g < G) (hp : 0 ≤ p ∧ p < w) (h : G * w ≤ 65536) : 0 ≤ g * w ∧ 0 ≤ g * w + p ∧ g * w + p ≤ 65536 := by
  have h0 : 0 ≤ g * w := Int.mul_nonneg hg.1 (by omega)
  have h1 : (g + 1) * w ≤ G * w := Int.mul_le_mul_of_nonneg_right (by omega) (by omega)
  rw [Int.add_mul, Int.one_mul] at h1
  omega
theorem slots_j1 (hx : Q.measure D l t s = (x, true)) (g p : Int) : Ev (fun k => tegulalaw21_LayoutSlots.j1 k g p ((headLen l : Int) - 3) D l t s) true := by
  have hG := good_of hx
  have b := slots_bd hG
  refine Ev.step (f := fun _ => some true) (fun k => ?_) (Ev.now _)
  simp only [tegulalaw21_LayoutSlots.j1]
  rw [lay_number hx, refis_is hG]
  simp only [Option.bind_some]
  by_cases hh : hasB x g p = true
  · obtain ⟨k1, k2, k3, k4⟩ := (has_iff hG).1 hh
    simp only [hh, if_true]
    by_cases c : p ≥ (headLen l : Int) - 3
    · simp only [if_pos c, if_true]; rfl
    · simp only [if_neg c, if_true]
      have b2 := num_bd (w := (headLen l : Int) - 3) ⟨k1, k2⟩ ⟨k3, by omega⟩ b.2
      rw [Q.wrap_small (i := g * ((headLen l : Int) - 3)) (by omega) (by omega), Q.wrap_small (by omega) (by omega)]
      simp
  · simp only [if_neg hh, if_true]; rfl
theorem div_lt {a w G : Int} (hw : 1 ≤ w) (h0 : 0 ≤ a) (h : a < G * w) : 0 ≤ a / w ∧ a / w < G ∧ 0 ≤ a % w ∧ a % w < w ∧ a / w * w + a % w = a := by
  refine ⟨Int.ediv_nonneg h0 (by omega), Int.ediv_lt_of_lt_mul (by omega) h, Int.emod_nonneg _ (by omega), Int.emod_lt_of_pos _ (by omega), ?_⟩
  rw [Int.mul_comm]; exact Int.mul_ediv_add_emod a w
/-- What is asked of LayoutSlots. -/
theorem LayoutSlots (a0 a b c : Int) (w0 : (Lit.int .u16 a0).wf = true) : ∃ k, tegulalaw21_LayoutSlots.f k a0 a b c = some true := by
  obtain ⟨⟨D, l, t, s⟩, hS, hok⟩ := small_is w0
  obtain ⟨x, hx⟩ := small_good hok
  have hG := good_of hx
  have hb := slots_bd hG
  have hW := (lim_of hG).W
  refine Ev.rounds (g := fun k => tegulalaw21_LayoutSlots.f k a0 a b c) ?_
  unfold tegulalaw21_LayoutSlots.f
  show Ev (fun k => (tegularef21_Small.f k a0).bind fun bt422 => _) true
  refine Ev.bind (Ev.of (tegularef21_Small.mono a0) hS) ?_
  dsimp only
  rw [ref_width hG, lay_slot hx, ref_slots hG]
  simp only [Option.bind_some]
  rw [Q.wrap_small (i := (headLen l : Int) - 3) (by omega) (by omega)]
  have hj := slots_j1 hx b c
  by_cases hno : a < 0 ∨ a ≥ t * (l.length : Int) * ((headLen l : Int) - 3)
  · have hout : Ev (fun k => tegulalaw21_LayoutSlots.j0 k a b c ((headLen l : Int) - 3) 0 0 2 true D l t s) true := by
      refine Ev.step (f := fun k => tegulalaw21_LayoutSlots.j1 k b c ((headLen l : Int) - 3) D l t s) (fun k => ?_) hj
      simp only [tegulalaw21_LayoutSlots.j0]
      rw [if_pos trivial, if_pos trivial, if_pos trivial, if_pos trivial]
    rw [if_pos hno]
    by_cases c1 : a < 0
    · simp only [if_pos c1]; exact hout
    · simp only [if_neg c1]
      rw [decide_eq_true (show a ≥ t * (l.length : Int) * ((headLen l : Int) - 3) by omega)]
      exact hout
  · have c1 : ¬ a < 0 := by omega
    have c2 : ¬ a ≥ t * (l.length : Int) * ((headLen l : Int) - 3) := by omega
    obtain ⟨d1, d2, d3, d4, d5⟩ := div_lt (w := (headLen l : Int) - 3) (G := t * (l.length : Int)) (a := a) (by omega) (by omega) (by omega)
    have hh := (has_iff hG).2 ⟨d1, d2, d3, show a % ((headLen l : Int) - 3) < (headLen l : Int) by omega⟩
    rw [if_neg hno]
    simp only [if_neg c1]
    rw [decide_eq_false c2]
    refine Ev.step (f := fun k => tegulalaw21_LayoutSlots.j1 k b c ((headLen l : Int) - 3) D l t s) (fun k => ?_) hj
    have gn := groups_nn hG
    have ed : Int.tdiv a ((headLen l : Int) - 3) = a / ((headLen l : Int) - 3) := Int.tdiv_eq_ediv_of_nonneg (by omega)
    have em : Int.tmod a ((headLen l : Int) - 3) = a % ((headLen l : Int) - 3) := Int.tmod_eq_emod_of_nonneg (by omega)
    simp only [tegulalaw21_LayoutSlots.j0]
    rw [if_neg (by simp), lay_number hx, if_pos hh, if_neg (show ¬ a % ((headLen l : Int) - 3) ≥ (headLen l : Int) - 3 by omega), d5]
    simp only [Option.bind_some]
    rw [if_pos trivial, if_neg (by omega), ed, em, Q.wrap_small (i := a / ((headLen l : Int) - 3)) (by omega) (by omega)]
    simp only [if_true]
theorem slots_walk (a0 a b c : Int) (w : World) (w0 : (Lit.int .u16 a0).wf = true) :
    Calls Try.prog 11 #[.int .u16 a0, .agg #[.int .i64 a, .int .i64 b, .int .i64 c]] w fun e w' => e = .returned (.bool true) ∧ Below w.heap.size w w' := by
  obtain ⟨k, h⟩ := LayoutSlots a0 a b c w0
  refine (tegulalaw21_LayoutSlots.calls k a0 a b c true w h).mono ?_
  rintro e w' ⟨rfl, hd⟩
  exact ⟨rfl, hd⟩
end Go.Proofs.Ytebnladkogkpfaa.Pure

namespace Go.Proofs.Ytebnladkogkpfaa.layoutSlots
open Go.ChangeShapes Go.WideShapes Go.ChangeAt Go.RowKit
open Go.ChangeMaps (open_string shut_string)
set_option linter.unusedVariables false
section
variable {H : Type} {enc : TypeId × Value → H} {P : Program} {k e : TypeId} {q : IntKind} {w : World} {base : Nat} {sp : Nat → Bool} {held : Bool}
theorem cell_int {n m : Nat} {a : Int} (he : P.underlying e = some (.int q)) (hw : (Lit.int q a).wf = true) : DataW.trod enc P w base sp held (m + 1) e [.int q a] = some (.lit (.int q a), []) := by simp [DataW.trod, he, hw]
theorem open_a3 (hu : P.underlying k = some (.array 3 e)) (he : P.underlying e = some (.int q)) (hC : P.cellsOf k = 3) (hc : P.cellsOf e = 1) {v0 v1 v2 : Value} {d : DataW H} {ps : List MemPlace} (hd : DataW.Trod enc P w base sp held k (.agg #[v0, v1, v2]) d ps) :
    ∃ a b c, v0 = .int q a ∧ v1 = .int q b ∧ v2 = .int q c ∧ d = .agg [.lit (.int q a), .lit (.int q b), .lit (.int q c)] ∧ ps = [] ∧ (Lit.int q a).wf = true ∧ (Lit.int q b).wf = true ∧ (Lit.int q c).wf = true := by
  obtain ⟨fuel, hf⟩ := hd
  cases fuel with
  | zero => simp [DataW.trod] at hf
  | succ m =>
    rw [DataW.trod_step] at hf
    unfold DataW.trodStep at hf
    simp only [hu, Value.cells, hC, hc] at hf
    rw [if_pos (by rfl)] at hf
    simp only [Option.map_eq_some_iff] at hf
    obtain ⟨ys, hy, e1⟩ := hf
    simp only [show List.range 3 = [0, 1, 2] from rfl, List.mapM_cons, List.mapM_nil, bind, Option.bind_eq_some_iff, pure, Option.some.injEq] at hy
    obtain ⟨y0, h0, z1, ⟨y1, h1, z2, ⟨y2, h2, z3, rfl, rfl⟩, rfl⟩, rfl⟩ := hy
    obtain ⟨a, ea, rfl, wa⟩ := DataW.trod_int he h0
    obtain ⟨b, eb, rfl, wb⟩ := DataW.trod_int he h1
    obtain ⟨c, ec, rfl, wc⟩ := DataW.trod_int he h2
    simp at ea eb ec
    simp only [Prod.mk.injEq] at e1
    refine ⟨a, b, c, ea, eb, ec, by rw [← e1.1]; rfl, by rw [← e1.2]; rfl, wa, wb, wc⟩
theorem shut_a3 (hu : P.underlying k = some (.array 3 e)) (he : P.underlying e = some (.int q)) (hC : P.cellsOf k = 3) (hc : P.cellsOf e = 1) {a b c : Int} (wa : (Lit.int q a).wf = true) (wb : (Lit.int q b).wf = true) (wc : (Lit.int q c).wf = true) :
    DataW.Trod enc P w base sp held k (.agg #[.int q a, .int q b, .int q c]) (.agg [.lit (.int q a), .lit (.int q b), .lit (.int q c)]) [] := by
  refine ⟨2, ?_⟩
  rw [DataW.trod_step]
  unfold DataW.trodStep
  simp only [hu, Value.cells, hC, hc]
  rw [if_pos (by rfl)]
  simp only [show List.range 3 = [0, 1, 2] from rfl, List.mapM_cons, List.mapM_nil, bind, pure]
  have e0 := cell_int (enc := enc) (w := w) (base := base) (sp := sp) (held := held) (n := 0) (m := 0) he wa
  have e1 := cell_int (enc := enc) (w := w) (base := base) (sp := sp) (held := held) (n := 0) (m := 0) he wb
  have e2 := cell_int (enc := enc) (w := w) (base := base) (sp := sp) (held := held) (n := 0) (m := 0) he wc
  simp [e0, e1, e2]
end
theorem arr3 {xs : Array Value} (h : xs.size = 3) : ∃ c0 c1 c2, xs = #[c0, c1, c2] := by
  obtain ⟨xs⟩ := xs
  match xs, h with
  | [c0, c1, c2], _ => exact ⟨c0, c1, c2, rfl⟩
theorem arr58 : WideMaps.ArrKey Try.prog 58 3 3 := ⟨Try.underlying58, by kernel_rfl, by kernel_rfl, by kernel_rfl⟩
theorem own : ownKnob Try.prog.godebug = none := by kernel_rfl
theorem cells58 : Try.prog.cellsOf 58 = 3 := by kernel_rfl
theorem cells3 : Try.prog.cellsOf 3 = 1 := by kernel_rfl
set_option maxRecDepth 100000 in
theorem lifted (os : Os) (started : os.Started) (H : Type) (enc : TypeId × Value → H) :
    ReturnsInHanded {} Try.checked os 11 .any (Rows.layoutSlotsSpec.pre6 enc Try.prog Try.f11 Rows.layoutSlotsRow.domain false) (Rows.layoutSlotsSpec.post enc Try.prog Try.f11 false true false false) := by
  refine returnsInHanded_of_change_sized (C := Try.checked) own started (by kernel_rfl) Try.func11
    (ChangeSpec.witness6 (enc := enc) (C := Try.checked) false ⟨#[], #[.int .u16 0, .agg #[.int .i64 0, .int .i64 0, .int .i64 0]], []⟩ 8 (by kernel_rfl) (by kernel_rfl) (by kernel_rfl) (by kernel_rfl)) ?_
  intro W base args ds gs before hval0 hW hcnd hsz0 _
  have hval : ∀ (j : Nat) t v, Try.f11.params[j]? = some t → args[j]? = some v → Value.okWide Try.prog W .any base t v := hval0
  have hW' := hW
  obtain ⟨p, q, hA0, hV, rfl, hfz, hnd⟩ := hW
  have hA : DataW.TrodAll enc Try.prog W 0 (fun _ => true) true Try.f11.params.toList args.toList ds p := hA0
  rw [Try.params11] at hA hval
  obtain ⟨v0, vs0, d0, ds0, p0, q0, hargs, rfl, rfl, h0, r0⟩ := trodAll_cons hA
  obtain ⟨v1, vs1, d1, ds1, p1, q1, rfl, rfl, rfl, h1, r1⟩ := trodAll_cons r0
  obtain ⟨rfl, rfl, rfl⟩ := trodAll_nil r1
  obtain rfl : args = #[v0, v1] := by cases args; simp_all
  obtain ⟨rfl, rfl⟩ := trodVars_none hV
  obtain ⟨a0, rfl, rfl, rfl, w0⟩ := open_int Try.underlying22 (hval 0 22 v0 rfl rfl) h0
  obtain ⟨xs, rfl, hn⟩ := WideMaps.okWide_arr arr58 (hval 1 58 v1 rfl rfl)
  obtain ⟨u0, u1, u2, rfl⟩ := arr3 hn
  obtain ⟨a, b, c, rfl, rfl, rfl, rfl, rfl, w1, w2, w3⟩ := open_a3 Try.underlying58 Try.underlying3 cells58 cells3 h1
  clear hA0 hval0 hsz0
  refine (Pure.slots_walk a0 a b c W w0).mono fun e W' ⟨he, bel⟩ => ?_
  subst he
  exact ⟨_, rfl, _, _, _, [], _, [], hW', trodAll_mk1 (shut_bool Try.underlying4 _), (trodAll_cons_mk (shut_int Try.underlying22 w0) (trodAll_cons_mk (shut_a3 Try.underlying58 Try.underlying3 cells58 cells3 w1 w2 w3) trodAll_mk0)), rfl, bel.frame _, fun h => by cases h⟩
theorem over : Rows.layoutSlotsRow.holds Try.pinned (OpenSpec.ofChange Rows.layoutSlotsSpec) :=
  OpenClaim.holds_of_wide 11 Try.f11 rfl rfl rfl rfl rfl rfl rfl ⟨rfl, rfl, rfl, rfl, rfl⟩ rfl rfl rfl rfl rfl (by kernel_rfl) Try.func11 (by kernel_rfl)
    (of_decide_eq_true (by kernel_rfl)) (by unfold Func.isWrapper; first | (rw [if_pos (by decide +kernel)]; kernel_rfl) | (rw [if_neg (by decide +kernel)]; exact ⟨rfl, rfl⟩))
    (fun os started H enc _ => lifted os started H enc)
theorem proved : Rows.LayoutSlotsSaid := over
#print axioms proved
end Go.Proofs.Ytebnladkogkpfaa.layoutSlots
namespace Go.Proofs.Ytebnladkogkpfaa
/-- The row, under a short name, for the claim. -/
theorem layoutSlots_holds : Rows.LayoutSlotsSaid := layoutSlots.proved
end Go.Proofs.Ytebnladkogkpfaa
