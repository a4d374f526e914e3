/- The row of LayoutAt holds: the law answers true on every input of its domain, on every machine; no conditions beyond those of the row itself. -/
import Derived.Test.YtebnladkogkpfaaRows
import Derived.Test.YtebnladkogkpfaaQ25
import Derived.WalkKit
import Derived.ProofKit
import Derived.OpenShut
import Derived.ShutString
import Derived.ChangeOld
import Derived.Below
import Derived.SizedLaws
import Derived.Lib.SmallJoins
import Derived.Test.YtebnladkogkpfaaPA
/-! LayoutAt answers true. -/
namespace Go.Proofs.Ytebnladkogkpfaa.Pure
open Go.RowKit Go.Proofs.Ytebnladkogkpfaa.Q Go.Proofs.YtebnladkogkpfaaW.PrintWords Go.Proofs.YtebnladkogkpfaaW.PrintLast
open Go.Proofs.Ytebnladkogkpfaa.T (prs)

variable {D : Int} {l : List (List Int)} {t s : Int} {x : Nums}
/-- Which pieces lie at the place. -/
def HitOk (D : Int) (l : List (List Int)) (t s d B : Int) (hit : Int → Int → Bool) : Prop := ∀ g p : Nat, (g : Int) < t * (l.length : Int) → (p : Int) < (headLen l : Int) → ∃ y : Int × Int, Ev (fun k => tegularef21_Home.f k D l t s (g : Int) (p : Int)) y ∧ (y.1 == d && (y.2 == B)) = hit g p
theorem at_row (h : Q.Good D l t s x) {d B : Int} {hit : Int → Int → Bool} (H : HitOk D l t s d B hit) {R : Int × Int × Bool} {g : Nat} (hg : (g : Int) < t * (l.length : Int)) (hno : ∀ p : Nat, (p : Int) < (headLen l : Int) → hit g p = false)
    (hnext : Ev (fun k => tegularef21_At.l0 k ((g + 1 : Nat) : Int) D l t s d B) R) : ∀ n (p : Nat), headLen l - p = n → p ≤ headLen l → Ev (fun k => tegularef21_At.l1 k (g : Int) (p : Int) D l t s d B) R := by
  have hW := (lim_of h).W
  have hgn := groups_nn h
  intro n
  induction n with
  | zero =>
    intro p e hp
    refine Ev.step (f := fun k => tegularef21_At.l0 k ((g + 1 : Nat) : Int) D l t s d B) (fun k => ?_) hnext
    simp only [tegularef21_At.l1]
    rw [ref_width h]
    simp only [Option.bind_some]
    rw [if_neg (by omega), Q.wrap_small (by omega) (by omega)]
    rfl
  | succ n ih =>
    intro p e hp
    obtain ⟨y, hy, he⟩ := H g p hg (by omega)
    rw [hno p (by omega)] at he
    have h3 := ih (p + 1) (by omega) (by omega)
    refine Ev.step (f := fun k => (tegularef21_Home.f k D l t s (g : Int) (p : Int)).bind fun bt262 => (if (bt262.1 == d && (bt262.2 == B)) = true then (some ((g : Int), (p : Int), true)) else (tegularef21_At.l1 k (g : Int) (wrap64 ((p : Int) + 1)) D l t s d B))) (fun k => ?_) (Ev.bind hy ?_)
    · simp only [tegularef21_At.l1]
      rw [ref_width h]
      simp only [Option.bind_some]
      rw [if_pos (by omega)]
    · rw [he]
      simp only [if_neg (show ¬ false = true by simp)]
      rw [Q.wrap_small (by omega) (by omega)]
      exact h3
theorem at_hit (h : Q.Good D l t s x) {d B : Int} {hit : Int → Int → Bool} (H : HitOk D l t s d B hit) {g p0 : Nat} (hg : (g : Int) < t * (l.length : Int)) (hp0 : (p0 : Int) < (headLen l : Int)) (hyes : hit g p0 = true) (hno : ∀ p : Nat, p < p0 → hit g p = false) :
    ∀ n (p : Nat), p0 - p = n → p ≤ p0 → Ev (fun k => tegularef21_At.l1 k (g : Int) (p : Int) D l t s d B) ((g : Int), (p0 : Int), true) := by
  have hW := (lim_of h).W
  have hgn := groups_nn h
  intro n
  induction n with
  | zero =>
    intro p e hp
    obtain rfl : p = p0 := by omega
    obtain ⟨y, hy, he⟩ := H g p hg (by omega)
    rw [hyes] at he
    refine Ev.step (f := fun k => (tegularef21_Home.f k D l t s (g : Int) (p : Int)).bind fun bt262 => (if (bt262.1 == d && (bt262.2 == B)) = true then (some ((g : Int), (p : Int), true)) else (tegularef21_At.l1 k (g : Int) (wrap64 ((p : Int) + 1)) D l t s d B))) (fun k => ?_) (Ev.bind hy ?_)
    · simp only [tegularef21_At.l1]
      rw [ref_width h]
      simp only [Option.bind_some]
      rw [if_pos (by omega)]
    · rw [he]
      simp only [if_true]
      exact Ev.now _
  | succ n ih =>
    intro p e hp
    obtain ⟨y, hy, he⟩ := H g p hg (by omega)
    rw [hno p (by omega)] at he
    have h3 := ih (p + 1) (by omega) (by omega)
    refine Ev.step (f := fun k => (tegularef21_Home.f k D l t s (g : Int) (p : Int)).bind fun bt262 => (if (bt262.1 == d && (bt262.2 == B)) = true then (some ((g : Int), (p : Int), true)) else (tegularef21_At.l1 k (g : Int) (wrap64 ((p : Int) + 1)) D l t s d B))) (fun k => ?_) (Ev.bind hy ?_)
    · simp only [tegularef21_At.l1]
      rw [ref_width h]
      simp only [Option.bind_some]
      rw [if_pos (by omega)]
    · rw [he]
      simp only [if_neg (show ¬ false = true by simp)]
      rw [Q.wrap_small (by omega) (by omega)]
      exact h3
theorem at_none (h : Q.Good D l t s x) {d B : Int} {hit : Int → Int → Bool} (H : HitOk D l t s d B hit) (hno : ∀ g p : Nat, (g : Int) < t * (l.length : Int) → (p : Int) < (headLen l : Int) → hit g p = false) :
    ∀ n (g : Nat), (t * (l.length : Int)).toNat - g = n → (g : Int) ≤ t * (l.length : Int) → Ev (fun k => tegularef21_At.l0 k (g : Int) D l t s d B) (0, 0, false) := by
  have hgn := groups_nn h
  intro n
  induction n with
  | zero =>
    intro g e hg
    refine Ev.step (f := fun k => some (0, 0, false)) (fun k => ?_) (Ev.now _)
    simp only [tegularef21_At.l0]
    rw [ref_groups h]
    simp only [Option.bind_some]
    rw [if_neg (by omega)]
  | succ n ih =>
    intro g e hg
    have h3 := at_row h H (g := g) (by omega) (fun p hp => hno g p (by omega) hp) (ih (g + 1) (by omega) (by omega)) (headLen l) 0 rfl (by omega)
    refine Ev.step (f := fun k => tegularef21_At.l1 k (g : Int) ((0 : Nat) : Int) D l t s d B) (fun k => ?_) h3
    simp only [tegularef21_At.l0]
    rw [ref_groups h]
    simp only [Option.bind_some]
    rw [if_pos (by omega)]
    rfl
theorem at_some (h : Q.Good D l t s x) {d B : Int} {hit : Int → Int → Bool} (H : HitOk D l t s d B hit) {g0 p0 : Nat} (hg0 : (g0 : Int) < t * (l.length : Int)) (hp0 : (p0 : Int) < (headLen l : Int)) (hh : ∀ g p : Nat, hit g p = (decide (g = g0) && decide (p = p0))) :
    ∀ n (g : Nat), g0 - g = n → g ≤ g0 → Ev (fun k => tegularef21_At.l0 k (g : Int) D l t s d B) ((g0 : Int), (p0 : Int), true) := by
  have hgn := groups_nn h
  intro n
  induction n with
  | zero =>
    intro g e hg
    obtain rfl : g = g0 := by omega
    have h3 := at_hit h H hg0 hp0 (by rw [hh]; simp) (fun p hp => by rw [hh, decide_eq_false (show ¬ p = p0 by omega), Bool.and_false]) p0 0 rfl (by omega)
    refine Ev.step (f := fun k => tegularef21_At.l1 k (g : Int) ((0 : Nat) : Int) D l t s d B) (fun k => ?_) h3
    simp only [tegularef21_At.l0]
    rw [ref_groups h]
    simp only [Option.bind_some]
    rw [if_pos (by omega)]
    rfl
  | succ n ih =>
    intro g e hg
    have h3 := at_row h H (g := g) (by omega) (fun p hp => by rw [hh, decide_eq_false (show ¬ g = g0 by omega), Bool.false_and]) (ih (g + 1) (by omega) (by omega)) (headLen l) 0 rfl (by omega)
    refine Ev.step (f := fun k => tegularef21_At.l1 k (g : Int) ((0 : Nat) : Int) D l t s d B) (fun k => ?_) h3
    simp only [tegularef21_At.l0]
    rw [ref_groups h]
    simp only [Option.bind_some]
    rw [if_pos (by omega)]
    rfl
def atHit (x : Nums) (d B : Int) (g p : Int) : Bool := decide (homeN x g p = some (d, B))
theorem hit_ok (h : Q.Good D l t s x) (d B : Int) : HitOk D l t s d B (atHit x d B) := by
  intro g p hg hp
  have hh := (has_iff h).2 ⟨Int.natCast_nonneg g, hg, Int.natCast_nonneg p, hp⟩
  obtain ⟨d', B', h1, h2, _, _, _, _⟩ := inv_home h hh
  refine ⟨(d', B'), h2, ?_⟩
  unfold atHit
  rw [h1]
  rw [Bool.eq_iff_iff]
  simp only [Bool.and_eq_true, beq_iff_eq, decide_eq_true_eq, Option.some.injEq, Prod.mk.injEq]
theorem refat_spare (h : Q.Good D l t s x) {d B : Int} (hB : t * (prs l 0 0 : Int) ≤ B) : Ev (fun k => tegularef21_At.f k D l t s d B) (0, 0, false) := by
  have hgn := groups_nn h
  refine at_none h (hit_ok h d B) (fun g p hg hp => ?_) _ 0 rfl (by omega)
  have hh := (has_iff h).2 ⟨Int.natCast_nonneg g, hg, Int.natCast_nonneg p, hp⟩
  obtain ⟨d', B', h1, _, _, h2, _, _⟩ := inv_home h hh
  unfold atHit
  rw [h1]
  refine decide_eq_false (fun e => ?_)
  injection e with e
  injection e with _ e
  omega
theorem refat_home (h : Q.Good D l t s x) {d B : Int} (hd : 0 ≤ d ∧ d < D) (hB : 0 ≤ B ∧ B < t * (prs l 0 0 : Int)) : ∃ g p, atN x d B = some (g, p) ∧ Ev (fun k => tegularef21_At.f k D l t s d B) (g, p, true) := by
  obtain ⟨g0, p0, hh, ha, hm⟩ := inv_at h hd hB
  obtain ⟨k1, k2, k3, k4⟩ := (has_iff h).1 hh
  obtain ⟨g, rfl⟩ : ∃ g : Nat, g0 = (g : Int) := ⟨_, (Int.toNat_of_nonneg k1).symm⟩
  obtain ⟨p, rfl⟩ : ∃ p : Nat, p0 = (p : Int) := ⟨_, (Int.toNat_of_nonneg k3).symm⟩
  refine ⟨_, _, ha, ?_⟩
  obtain ⟨hit, hhit⟩ : ∃ hit : Int → Int → Bool, hit = fun a b => decide (a = (g : Int)) && decide (b = (p : Int)) := ⟨_, rfl⟩
  refine at_some h (hit := hit) (fun g' p' hg hp => ?_) k2 k4 (fun g' p' => by rw [hhit]; simp only [Int.ofNat_inj]) g 0 (by omega) (by omega)
  obtain ⟨y, hy, he⟩ := hit_ok h d B g' p' hg hp
  refine ⟨y, hy, he.trans ?_⟩
  rw [hhit]
  unfold atHit
  rw [Bool.eq_iff_iff]
  simp only [Bool.and_eq_true, decide_eq_true_eq]
  constructor
  · intro e
    have hh' := (has_iff h).2 ⟨Int.natCast_nonneg g', hg, Int.natCast_nonneg p', hp⟩
    obtain ⟨d', B', h1, _, _, _, h2, _⟩ := inv_home h hh'
    rw [e] at h1
    injection h1 with h1
    injection h1 with e1 e2
    rw [← e1, ← e2, ha] at h2
    injection h2 with h2
    injection h2 with e3 e4
    exact ⟨e3.symm, e4.symm⟩
  · rintro ⟨e1, e2⟩
    rw [e1, e2]; exact hm

/-- What is asked of LayoutAt. -/
def PureAt : Prop := ∀ (a0 : Int) (a1_0 : Int) (a1_1 : Int), (Lit.int .u16 a0).wf = true → (Lit.int .i64 a1_0).wf = true → (Lit.int .i64 a1_1).wf = true → ∃ k, tegulalaw21_LayoutAt.f k a0 a1_0 a1_1 = some true
theorem LayoutAt : PureAt := by
  intro a0 d B w0 w1 w2
  obtain ⟨⟨D, l, t, s⟩, hS, hok⟩ := small_is w0
  obtain ⟨x, hx⟩ := small_good hok
  have hG := good_of hx
  have hn := homes_nn hG
  have hs := (lim_of hG).ss
  refine Ev.rounds (g := fun k => tegulalaw21_LayoutAt.f k a0 d B) ?_
  unfold tegulalaw21_LayoutAt.f
  show Ev (fun k => (tegularef21_Small.f k a0).bind fun bt266 => _) true
  refine Ev.bind (Ev.of (tegularef21_Small.mono a0) hS) ?_
  dsimp only
  have hout : Ev (fun k => tegulalaw21_LayoutAt.j0 k 0 0 2 true d B D l t s) true := by
    refine Ev.step (f := fun _ => some true) (fun k => ?_) (Ev.now _)
    simp only [tegulalaw21_LayoutAt.j0]
    rfl
  by_cases hno : d < 0 ∨ d ≥ D ∨ B < 0 ∨ B ≥ t * (prs l 0 0 : Int) + s
  · rw [lay_at_no hx hno]
    simp only [Option.bind_some, ref_blocks hG]
    by_cases c1 : d < 0
    · simp only [if_pos c1]; exact hout
    simp only [if_neg c1]
    by_cases c2 : d ≥ D
    · simp only [if_pos c2]; exact hout
    simp only [if_neg c2]
    by_cases c3 : B < 0
    · simp only [if_pos c3]; exact hout
    simp only [if_neg c3]
    rw [decide_eq_true (show B ≥ t * (prs l 0 0 : Int) + s by omega)]
    exact hout
  · have c1 : ¬ d < 0 := by omega
    have c2 : ¬ d ≥ D := by omega
    have c3 : ¬ B < 0 := by omega
    have c4 : ¬ B ≥ t * (prs l 0 0 : Int) + s := by omega
    by_cases c5 : B < t * (prs l 0 0 : Int)
    · obtain ⟨g, p, h1, h2⟩ := refat_home hG (d := d) (B := B) ⟨by omega, by omega⟩ ⟨by omega, c5⟩
      rw [lay_at hx ⟨by omega, by omega⟩ ⟨by omega, c5⟩ h1]
      simp only [Option.bind_some, ref_blocks hG, if_neg c1, if_neg c2, if_neg c3]
      rw [decide_eq_false c4]
      refine Ev.step (f := fun k => (tegularef21_At.f k D l t s d B).bind fun bt277 => (if bt277.2.2 = true then (if (0 : Int) = 0 then (if g = bt277.1 then (some (p == bt277.2.1)) else (some false)) else (some false)) else (if (0 : Int) = 9 then (if g = 0 then (if p = 0 then ((tegularef21_Homes.f D l t s).bind fun t280 => (some (decide (B ≥ t280)))) else (some false)) else (some false)) else (some false)))) (fun k => ?_) (Ev.bind h2 ?_)
      · simp only [tegulalaw21_LayoutAt.j0]
        rw [if_neg (by simp)]
      · simp only [if_true, beq_self_eq_true]
        exact Ev.now _
    · have h2 := refat_spare hG (d := d) (B := B) (by omega)
      rw [lay_at_spare hx ⟨by omega, by omega⟩ ⟨by omega, by omega⟩]
      simp only [Option.bind_some, ref_blocks hG, if_neg c1, if_neg c2, if_neg c3]
      rw [decide_eq_false c4]
      refine Ev.step (f := fun k => (tegularef21_At.f k D l t s d B).bind fun bt277 => (if bt277.2.2 = true then (if (9 : Int) = 0 then (if (0 : Int) = bt277.1 then (some ((0 : Int) == bt277.2.1)) else (some false)) else (some false)) else (if (9 : Int) = 9 then (if (0 : Int) = 0 then (if (0 : Int) = 0 then ((tegularef21_Homes.f D l t s).bind fun t280 => (some (decide (B ≥ t280)))) else (some false)) else (some false)) else (some false)))) (fun k => ?_) (Ev.bind h2 ?_)
      · simp only [tegulalaw21_LayoutAt.j0]
        rw [if_neg (by simp)]
      · simp only [if_true, ref_homes hG, Option.bind_some]
        rw [decide_eq_true (by omega)]
        simp only [if_neg (show ¬ false = true by simp)]
        exact Ev.now _
theorem at_walk (a0 : Int) (a1_0 : Int) (a1_1 : Int) (w : World) (w0 : (Lit.int .u16 a0).wf = true) (w1 : (Lit.int .i64 a1_0).wf = true) (w2 : (Lit.int .i64 a1_1).wf = true) :
    Calls Try.prog 4 #[.int .u16 a0, .agg #[.int .i64 a1_0, .int .i64 a1_1]] w fun e w' => e = .returned (.bool true) ∧ Below w.heap.size w w' := by
  obtain ⟨k, h⟩ := LayoutAt a0 a1_0 a1_1 w0 w1 w2
  refine (tegulalaw21_LayoutAt.calls k a0 a1_0 a1_1 true w h).mono ?_
  rintro e w' ⟨rfl, hd⟩
  exact ⟨rfl, hd⟩
end Go.Proofs.Ytebnladkogkpfaa.Pure

namespace Go.Proofs.Ytebnladkogkpfaa.layoutAt
open Go.ChangeShapes Go.WideShapes Go.ChangeAt Go.RowKit
open Go.ChangeMaps (open_string shut_string)
open Go.Joins (open_agg2 shut_agg2)
set_option linter.unusedVariables false
theorem cell_int {H : Type} {enc : TypeId × Value → H} {P : Program} {w : World} {base : Nat} {spare : Nat → Bool} {held : Bool} {t : TypeId} {k : IntKind} {n : Int} (ht : P.underlying t = some (.int k)) (hw : (Lit.int k n).wf = true) : ∃ m, DataW.trod enc P w base spare held m t [.int k n] = some (.lit (.int k n), []) :=
  ⟨1, by simp [DataW.trod, ht, hw]⟩
theorem own : ownKnob Try.prog.godebug = none := by kernel_rfl
set_option maxRecDepth 100000 in
theorem lifted (os : Os) (started : os.Started) (H : Type) (enc : TypeId × Value → H) :
    ReturnsInHanded {} Try.checked os 4 .any (Rows.layoutAtSpec.pre6 enc Try.prog Try.f4 Rows.layoutAtRow.domain false) (Rows.layoutAtSpec.post enc Try.prog Try.f4 false true false false) := by
  refine returnsInHanded_of_change_sized (C := Try.checked) own started (by kernel_rfl) Try.func4
    (ChangeSpec.witness6 (enc := enc) (C := Try.checked) false ⟨#[], #[.int .u16 0, .agg #[.int .i64 0, .int .i64 0]], []⟩ 8 (by kernel_rfl) (by kernel_rfl) (by kernel_rfl) (by kernel_rfl)) ?_
  intro W base args ds gs before hval0 hW hcnd hsz0 _
  have hsz : (DataW.weightsEach Try.prog (Try.f4.params.toList ++ Rows.layoutAtSpec.plain.varTypes Try.prog) (ds ++ gs)).all (· ≤ reachBytes) = true := hsz0
  have hval : ∀ (j : Nat) t v, Try.f4.params[j]? = some t → args[j]? = some v → Value.okWide Try.prog W .any base t v := hval0
  have hW' := hW
  obtain ⟨p, q, hA0, hV, rfl, hfz, hnd⟩ := hW
  have hA : DataW.TrodAll enc Try.prog W 0 (fun _ => true) true Try.f4.params.toList args.toList ds p := hA0
  rw [Try.params4] at hA hval hsz
  obtain ⟨v0, vs0, d0, ds0, p0, q0, hargs, rfl, rfl, h0, r0⟩ := trodAll_cons hA
  obtain ⟨v1, vs1, d1, ds1, p1, q1, rfl, rfl, rfl, h1, r1⟩ := trodAll_cons r0
  obtain ⟨rfl, rfl, rfl⟩ := trodAll_nil r1
  obtain rfl : args = #[v0, v1] := by cases args; simp_all
  obtain ⟨rfl, rfl⟩ := trodVars_none hV
  obtain ⟨a0, rfl, rfl, rfl, w0⟩ := open_int Try.underlying22 (hval 0 22 v0 rfl rfl) h0
  obtain ⟨u0, u1, y0, y1, m, rfl, rfl, rfl, hy0, hy1⟩ := open_agg2 Try.underlying31 (by kernel_rfl) (by kernel_rfl) (hval 1 31 v1 rfl rfl) h1
  obtain ⟨n0, e0, rfl, w1⟩ := DataW.trod_int Try.underlying3 hy0
  obtain ⟨n1, e1, rfl, w2⟩ := DataW.trod_int Try.underlying3 hy1
  simp at e0 e1
  subst e0 e1
  clear hA0 hval0 hsz0 hsz
  refine (Pure.at_walk a0 n0 n1 W w0 w1 w2).mono fun e W' ⟨he, bel⟩ => ?_
  subst he
  exact ⟨_, rfl, _, _, _, [], _, [], hW', trodAll_mk1 (shut_bool Try.underlying4 _), (trodAll_cons_mk (shut_int Try.underlying22 w0) (trodAll_cons_mk (shut_agg2 Try.underlying31 (by kernel_rfl) (by kernel_rfl) (cell_int Try.underlying3 w1) (cell_int Try.underlying3 w2)) trodAll_mk0)), rfl, bel.frame _, fun h => by cases h⟩
theorem over : Rows.layoutAtRow.holds Try.pinned (OpenSpec.ofChange Rows.layoutAtSpec) :=
  OpenClaim.holds_of_wide 4 Try.f4 rfl rfl rfl rfl rfl rfl rfl ⟨rfl, rfl, rfl, rfl, rfl⟩ rfl rfl rfl rfl rfl (by kernel_rfl) Try.func4 (by kernel_rfl)
    (of_decide_eq_true (by kernel_rfl)) (by unfold Func.isWrapper; first | (rw [if_pos (by decide +kernel)]; kernel_rfl) | (rw [if_neg (by decide +kernel)]; exact ⟨rfl, rfl⟩))
    (fun os started H enc _ => lifted os started H enc)
theorem proved : Rows.LayoutAtSaid := over
#print axioms proved
end Go.Proofs.Ytebnladkogkpfaa.layoutAt
namespace Go.Proofs.Ytebnladkogkpfaa
/-- The row, under a short name, for the claim. -/
theorem layoutAt_holds : Rows.LayoutAtSaid := layoutAt.proved
end Go.Proofs.Ytebnladkogkpfaa
