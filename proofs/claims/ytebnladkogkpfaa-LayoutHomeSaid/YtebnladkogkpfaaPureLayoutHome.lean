import Derived.Test.YtebnladkogkpfaaQ20
import Derived.Test.YtebnladkogkpfaaPA
/-! LayoutHome answers true. -/
namespace Go.Proofs.Ytebnladkogkpfaa.Pure
open Go.RowKit Go.Proofs.Ytebnladkogkpfaa.Q Go.Proofs.YtebnladkogkpfaaW.PrintWords Go.Proofs.YtebnladkogkpfaaW.PrintLast

theorem LayoutHome : tegulalaw21_LayoutHome.Pure := by
  intro a0 a1 a2 w0 w1 w2
  obtain ⟨⟨D, l, t, s⟩, hS, hok⟩ := small_is w0
  obtain ⟨x, hx⟩ := small_good hok
  have hG := good_of hx
  refine Ev.rounds (g := fun k => tegulalaw21_LayoutHome.f k a0 a1 a2) ?_
  unfold tegulalaw21_LayoutHome.f
  show Ev (fun k => (tegularef21_Small.f k a0).bind fun bt238 => _) true
  refine Ev.bind (Ev.of (tegularef21_Small.mono a0) hS) ?_
  have hH : layout_Home.f D l t s a1 a2 = (if hasB x a1 a2 = true then (homeN x a1 a2).bind fun t => some (t.1, t.2, 0) else some (0, 0, 2)) := by
    unfold layout_Home.f
    rw [hx, if_pos rfl, has_is (bds_of hG)]
    rfl
  dsimp only
  rw [hH, refis_is hG]
  by_cases hh : hasB x a1 a2 = true
  · obtain ⟨b, q, j, hb, hj, e1, e2, hq, eg, e3, ej, e4⟩ := spot_of hG hh
    rw [e2.symm] at e3 e4
    have h1 := home_is hG hh hb hj e1 e2 (by rw [← e2]; exact e3) (by rw [← e2]; exact e4)
    have h2 := refhome_is hG hh hb hj e1 e2 (by rw [← e2]; exact e3) (by rw [← e2]; exact e4)
    rw [hh, h1]
    simp only [Option.bind_some, if_true]
    refine Ev.congr (fun k => rfl) (Ev.bind h2 ?_)
    simpa using Ev.now true
  · rw [if_neg hh]
    simpa [hh] using Ev.now true

end Go.Proofs.Ytebnladkogkpfaa.Pure
