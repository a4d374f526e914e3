import Derived.Test.YtebnladkogkpfaaWApart
import Derived.Test.YtebnladkogkpfaaWMore
/-! Three rows of one's own held apart: the groups with each disk (rows of rows), the ranks (rows of rows), the ranks of the group at hand (a row). -/
namespace Go.Proofs.Ytebnladkogkpfaa.T
open Go.RowKit Go.Proofs.YtebnladkogkpfaaW.PrintWords Go.Proofs.YtebnladkogkpfaaW.PrintLast Go.Proofs.YtebnladkogkpfaaW.PrintMore
set_option linter.unusedVariables false

abbrev kI : Kd Int := Kd.int .i64
abbrev kR : Kd (List Int) := Kd.slice 3 kI
/-- on, ranks and the row at hand: no block is in two of them; none is of another element type than theirs. -/
def M3 (base : Nat) (von vrk vcu : Value) (lon lrk : List (List Int)) (cu : List Int) (w : World) : Prop :=
  ∃ Pon Prk Pcu : Nat → Prop, (∀ k, Pon k → ¬ Prk k) ∧ (∀ k, Pon k → ¬ Pcu k) ∧ (∀ k, Prk k → ¬ Pcu k) ∧
    Kd.S kR 56 w base Pon von lon ∧ Kd.R kR 56 w base Prk vrk lrk ∧ Kd.R kI 3 w base Pcu vcu cu
section
variable {base g n cap : Nat} {xs : List Int} {von vrk vcu : Value} {lon lrk : List (List Int)} {cu : List Int} {w w1 : World}
/-- Blocks of other element types may be written, new ones made. -/
theorem M3.step (h : M3 base von vrk vcu lon lrk cu w) (hm : ∀ k, k < w.heap.size → base ≤ k → (∃ q cells, (q = 56 ∨ q = 3) ∧ w.heap[k]? = some (.cells cells q (0, 0))) → w1.heap[k]? = w.heap[k]?) : M3 base von vrk vcu lon lrk cu w1 := by
  obtain ⟨Pon, Prk, Pcu, d1, d2, d3, hS, hR, hC⟩ := h
  refine ⟨Pon, Prk, Pcu, d1, d2, d3, Kd.S_mono (Kd.S_move (Kd.S_bound hS) ?_) (fun _ hk => hk.1), Kd.R_mono (Kd.R_move (Kd.R_bound hR) ?_) (fun _ hk => hk.1), Kd.R_mono (Kd.R_move (Kd.R_bound hC) ?_) (fun _ hk => hk.1)⟩
  · rintro k ⟨_, hb, hlt, q, hq, cells, hc⟩
    refine hm k hlt hb ⟨q, cells, ?_, hc⟩
    simpa [kR, Kd.slice, kI, Kd.int, Kd.scalar] using hq
  · rintro k ⟨_, hb, hlt, q, hq, cells, hc⟩
    refine hm k hlt hb ⟨q, cells, ?_, hc⟩
    simpa [kR, Kd.slice, kI, Kd.int, Kd.scalar] using hq
  · rintro k ⟨_, hb, hlt, q, hq, cells, hc⟩
    refine hm k hlt hb ⟨q, cells, .inr ?_, hc⟩
    simpa [kI, Kd.int, Kd.scalar] using hq
theorem M3.below (h : M3 base von vrk vcu lon lrk cu w) (hb : Below w.heap.size w w1) : M3 base von vrk vcu lon lrk cu w1 := h.step (fun k hk _ _ => hb.block k hk)
theorem M3.alloc (h : M3 base von vrk vcu lon lrk cu w) (o : Obj) : M3 base von vrk vcu lon lrk cu (w.alloc o) := h.below (below_alloc (Below.refl _ _) o)
theorem M3.drew (h : M3 base von vrk vcu lon lrk cu w) : M3 base von vrk vcu lon lrk cu w.drew := h.below (below_drew (Below.refl _ _))
theorem M3.set (h : M3 base von vrk vcu lon lrk cu w) {g t : Nat} {cells : Array Value} (hg : w.heap[g]? = some (.cells cells t (0, 0))) (ht : t ≠ 56 ∧ t ≠ 3) (j : Nat) (u : Value) : M3 base von vrk vcu lon lrk cu (w.setCell ⟨g, j, none⟩ u) := by
  refine h.step (fun k _ _ hk => Below.heap_setCell w ⟨g, j, none⟩ u k (fun he => ?_))
  obtain ⟨q, cs, hq, hc⟩ := hk
  have hkg : k = g := he
  rw [hkg, hg] at hc
  injection hc with hc
  injection hc with _ hc3
  rcases hq with hq | hq
  · exact ht.1 (hc3.trans hq)
  · exact ht.2 (hc3.trans hq)
/-- The row at hand has been appended to. -/
theorem M3.cur (h : M3 base von vrk vcu lon lrk cu w) {vcu' : Value} {cur' : List Int} (hg : w.grownBy w1 vcu.ownBlock) (hat : vcu'.ownBlock = vcu.ownBlock ∨ ∃ b, vcu'.ownBlock = some b ∧ w.heap.size ≤ b)
    (ho : w1.ownsRow base 3 1 vcu' cur'.length (encs (Value.int .i64) cur')) : M3 base von vrk vcu' lon lrk cur' w1 := by
  obtain ⟨Pon, Prk, Pcu, d1, d2, d3, hS, hR, hC⟩ := h
  have hS2 := Kd.S_mono (ok' := fun k => Pon k ∧ k < w.heap.size) (Kd.S_bound hS) (fun k hk => ⟨hk.1, hk.2.2.1⟩)
  have hR2 := Kd.R_mono (ok' := fun k => Prk k ∧ k < w.heap.size) (Kd.R_bound hR) (fun k hk => ⟨hk.1, hk.2.2.1⟩)
  have hb : ∀ k, some k = vcu.ownBlock → Pcu k := fun k hk => hC.1 k hk.symm
  refine ⟨fun k => Pon k ∧ k < w.heap.size, fun k => Prk k ∧ k < w.heap.size, fun k => Pcu k ∨ w.heap.size ≤ k, fun k h1 h2 => d1 k h1.1 h2.1, fun k h1 h2 => h2.elim (d2 k h1.1) (by omega), fun k h1 h2 => h2.elim (d3 k h1.1) (by omega),
    Kd.S_grown hS2 hg (fun k hk he => d2 k hk.1 (hb k he)), Kd.R_grown hR2 hg (fun k hk he => d3 k hk.1 (hb k he)), Kd.R_of_own ho (fun k hk => ?_)⟩
  rcases hat with e | ⟨b, e, hle⟩
  · exact .inl (hb k (by rw [← e, hk]))
  · rw [e] at hk
    injection hk with hk
    subst hk
    exact .inr hle
/-- A new row at hand. -/
theorem M3.nil (h : M3 base von vrk vcu lon lrk cu w) : M3 base von vrk (.slice none 0 0) lon lrk [] w := by
  obtain ⟨Pon, Prk, Pcu, d1, d2, d3, hS, hR, hC⟩ := h
  exact ⟨Pon, Prk, fun _ => False, d1, fun _ _ h => h, fun _ _ h => h, hS, hR, Kd.R_nil _ _ _ _ _⟩
/-- The row at hand is appended to the ranks. -/
theorem M3.row (h : M3 base von vrk vcu lon lrk cu w) : ∃ inner, w.ownsRow base 56 1 vrk lrk.length inner ∧ ∀ {w1 : World} {vrk' : Value}, w.grownBy w1 vrk.ownBlock → (vrk'.ownBlock = vrk.ownBlock ∨ ∃ b, vrk'.ownBlock = some b ∧ w.heap.size ≤ b) →
    w1.ownsRow base 56 1 vrk' (lrk.length + 1) (inner ++ [vcu]) → M3 base von vrk' (.slice none 0 0) lon (lrk ++ [cu]) [] w1 := by
  obtain ⟨Pon, Prk, Pcu, d1, d2, d3, hS, hR, hC⟩ := h
  have hS2 := Kd.S_mono (ok' := fun k => Pon k ∧ k < w.heap.size) (Kd.S_bound hS) (fun k hk => ⟨hk.1, hk.2.2.1⟩)
  have hb : ∀ k, some k = vrk.ownBlock → Prk k := fun k hk => hR.1 k hk.symm
  obtain ⟨h0, inner, ho, hr⟩ := hR
  refine ⟨inner, ho, fun {w1 vrk'} hg hat ho1 => ⟨fun k => Pon k ∧ k < w.heap.size, fun k => Prk k ∨ Pcu k ∨ w.heap.size ≤ k, fun _ => False, fun k h1 h2 => ?_, fun _ _ h => h, fun _ _ h => h, Kd.S_grown hS2 hg (fun k hk he => d1 k hk.1 (hb k he)), ?_, Kd.R_nil _ _ _ _ _⟩⟩
  · rcases h2 with h2 | h2 | h2
    · exact d1 k h1.1 h2
    · exact d2 k h1.1 h2
    · omega
  · exact Kd.R_appended (d := kR) (ok := fun k => Prk k ∨ Pcu k ∨ w.heap.size ≤ k) (okp := Pcu) (p := cu) (cs := [vcu]) (inner := inner) (fun k hk => .inl (h0 k hk)) (hr.imp_ (fun _ _ hp => kR.M_mono (fun k hk => ⟨.inl hk.1, hk.2⟩) hp)) ⟨vcu, rfl, hC⟩ (fun k hk => ⟨.inr (.inl hk), fun he => d3 k (hb k he) hk⟩) (fun k hk => .inr (.inr hk)) ho1 hg hat
/-- The row at hand, as cells. -/
theorem M3.own (h : M3 base von vrk vcu lon lrk cu w) : w.ownsRow base 3 1 vcu cu.length (encs (Value.int .i64) cu) := by
  obtain ⟨Pon, Prk, Pcu, d1, d2, d3, hS, hR, hC⟩ := h
  exact Kd.own_of_R hC
/-- Element d of on: its value, and what an append to it, stored back, makes. -/
theorem M3.elem (h : M3 base (.slice (some ⟨g, 0, none⟩) n cap) vrk vcu lon lrk cu w) (d : Nat) (hd : d < n) (hl : lon[d]? = some xs) :
    ∃ A c, ∃ vd, vd = .slice A xs.length c ∧ w.cell? ⟨g, d, none⟩ = some vd ∧ w.frozen? ⟨g, d, none⟩ = false ∧ w.ownsRow base 3 1 vd xs.length (encs (Value.int .i64) xs) ∧ vd.ownBlock ≠ some g ∧ g < w.heap.size ∧ base ≤ g ∧ (∃ cells, w.heap[g]? = some (.cells cells 56 (0, 0))) ∧
      ∀ {W w1 : World} {vd' : Value} {xs' : List Int}, Below w.heap.size w W → W.grownBy w1 vd.ownBlock → (vd'.ownBlock = vd.ownBlock ∨ ∃ b, vd'.ownBlock = some b ∧ W.heap.size ≤ b) → vd'.oneCell' = true → w1.ownsRow base 3 1 vd' xs'.length (encs (Value.int .i64) xs') →
        M3 base (.slice (some ⟨g, 0, none⟩) n cap) vrk vcu (lon.set d xs') lrk cu (w1.setCell ⟨g, d, none⟩ vd') := by
  obtain ⟨Pon, Prk, Pcu, d1, d2, d3, hS, hR, hC⟩ := h
  have hgo : some g = (Value.slice (some ⟨g, 0, none⟩) n cap).ownBlock := by simp [Value.ownBlock]
  have hPg : Pon g := (Kd.S_R hS).1 g hgo.symm
  obtain ⟨_, _, _, _, hfr⟩ := Kd.R_elem (Kd.S_R hS) [] (d : Int) (by omega) (by omega)
  obtain ⟨oki, c, hcl, ⟨vd, hcv, hRd⟩, hcc, hoki, hH⟩ := Kd.S_lend hS [] (d : Int) (by omega) (by omega)
  subst hcv
  have hlen := (Kd.S_reads' hS).1
  have hxs : lon.getD ((d : Int).toNat) [] = xs := by rw [Int.toNat_natCast, List.getD_eq_getElem?_getD, hl]; rfl
  rw [hxs] at hRd
  have hc0 := hcc 0 vd rfl
  have hf0 := hfr 0
  rw [Int.toNat_natCast, show d * kR.sz + 0 = d from by show d * 1 + 0 = d; omega] at hc0 hf0
  have hbd : ∀ k, some k = vd.ownBlock → oki k := fun k hk => hRd.1 k hk.symm
  obtain ⟨A, cc, hsl⟩ := Kd.R_slice hRd
  refine ⟨A, cc, vd, hsl, hc0, hf0, Kd.own_of_R hRd, fun he => (hoki g (hbd g he.symm)).2 rfl, (Kd.S_lt hS) g hgo.symm, (Kd.S_base hS) g hgo.symm, (Kd.S_typed hS) g hgo.symm, ?_⟩
  intro W w1 vd' xs' hb hg hat hone ho
  have hWs := hb.size
  have hR2 := Kd.R_mono (ok' := fun k => Prk k ∧ k < w.heap.size) (Kd.R_bound hR) (fun k hk => ⟨hk.1, hk.2.2.1⟩)
  have hC2 := Kd.R_mono (ok' := fun k => Pcu k ∧ k < w.heap.size) (Kd.R_bound hC) (fun k hk => ⟨hk.1, hk.2.2.1⟩)
  have hgo2 : ∀ k, oki k → Pon k := fun k hk => (hoki k hk).1
  have hH1 := Kd.H_mono (ok' := fun k => (Pon k ∨ w.heap.size ≤ k) ∧ ¬ (fun _ : Nat => False) k) hH (fun k hk => ⟨.inl hk, fun h => h⟩)
  have hH2 := Kd.H_widen (Kd.H_below hH1 hb)
  have hH3 := Kd.H_grown hH2 hg (fun k hk => .inl (hbd k hk.symm))
  have hM : kR.M w1 base (fun k => oki k ∨ ((Pon k ∨ w.heap.size ≤ k) ∧ ¬ (fun _ : Nat => False) k) ∧ W.heap.size ≤ k) xs' (([vd] : List Value).take 0 ++ [vd'] ++ ([vd] : List Value).drop (0 + [vd'].length)) := by
    refine ⟨vd', rfl, Kd.R_of_own ho (fun k hk => ?_)⟩
    rcases hat with e | ⟨b, e, hle⟩
    · exact .inl (hbd k (by rw [← e, hk]))
    · rw [e] at hk
      injection hk with hk
      subst hk
      exact .inr ⟨⟨.inr (by omega), fun h => h⟩, hle⟩
  have hS3 := (Kd.S_seg (okg := fun _ => False) hH3 (by omega) (by omega) (seg := [vd']) (j := 0) (by show 0 + 1 ≤ 1; omega) hM (fun k hk => .inl hk) (fun k hk => hk.elim)).1
  rw [Int.toNat_natCast, show d * kR.sz + 0 = d from by show d * 1 + 0 = d; omega] at hS3
  have hne : ∀ k, Pon k → some k = vd.ownBlock → True := fun _ _ _ => trivial
  refine ⟨fun k => Pon k ∨ w.heap.size ≤ k, fun k => Prk k ∧ k < w.heap.size, fun k => Pcu k ∧ k < w.heap.size, fun k h1 h2 => h1.elim (fun h => d1 k h h2.1) (by omega), fun k h1 h2 => h1.elim (fun h => d2 k h h2.1) (by omega), fun k h1 h2 => d3 k h1.1 h2.1, hS3, ?_, ?_⟩
  · refine Kd.R_far (p := ⟨g, d, none⟩) (Kd.R_grown (Kd.R_below hR2 hb) hg (fun k hk he => d1 k (hgo2 k (hbd k he)) hk.1)) (fun k hk he => ?_) vd'
    have : k = g := he
    exact d1 g hPg (by rw [← this]; exact hk.1)
  · refine Kd.R_far (p := ⟨g, d, none⟩) (Kd.R_grown (Kd.R_below hC2 hb) hg (fun k hk he => d2 k (hgo2 k (hbd k he)) hk.1)) (fun k hk he => ?_) vd'
    have : k = g := he
    exact d2 g hPg (by rw [← this]; exact hk.1)
/-- What is read of them. -/
theorem M3.reads (h : M3 base von vrk vcu lon lrk cu w) : (∃ A c, von = .slice A lon.length c ∧ lon.length ≤ c ∧ kR.C w A lon.length lon) ∧ (∃ A c, vrk = .slice A lrk.length c ∧ lrk.length ≤ c ∧ kR.C w A lrk.length lrk) := by
  obtain ⟨Pon, Prk, Pcu, d1, d2, d3, hS, hR, hC⟩ := h
  exact ⟨Kd.S_reads hS, Kd.R_reads hR⟩
end
end Go.Proofs.Ytebnladkogkpfaa.T
