import Derived.Test.YtebnladkogkpfaaG48
/-! The walk of Projective at size 3. -/
namespace Go.Proofs.Ytebnladkogkpfaa.Q
open Go.RowKit Go.Proofs.YtebnladkogkpfaaW.PrintWords Go.Proofs.YtebnladkogkpfaaW.PrintLast Go.Proofs.YtebnladkogkpfaaW.PrintMore
set_option linter.unusedVariables false
set_option linter.unusedSimpArgs false

theorem crd_cells {w : World} {base : Nat} {ok : Nat → Prop} {v : Value} (h : kA.R 58 w base ok v (T.pre 27)) : ∃ gl cap lc, v = .slice (some ⟨gl, 0, none⟩) 13 cap ∧ w.heap[gl]? = some (.cells lc 58 (0, 0)) ∧ base ≤ gl ∧ 13 ≤ cap ∧ ∀ i, i < 13 → ∀ n, n < 3 → lc[i * 3 + n]? = some (.int .i64 (T.cr i n)) := by
  obtain ⟨gl, cap, hv, hb, _, lc, hlc⟩ := Kd.R_form h (by rw [T.pre27]; omega)
  rw [T.pre27] at hv
  subst hv
  obtain ⟨_, hcap, hC⟩ := Kd.R_reads' h
  refine ⟨gl, cap, lc, rfl, hlc, hb, hcap, fun i hi n hn => ?_⟩
  obtain ⟨ad, c, e, _, hK, hc⟩ := Kd.C_get hC ([] : List Int) (i : Int) (by omega) (by rw [T.pre27]; omega)
  injection e with e
  subst e
  rw [Int.toNat_natCast] at hK hc
  obtain ⟨hl, hcs⟩ := Kd.arr_cells (enc := Value.int .i64) hK
  have h1 := hc n (.int .i64 (T.cr i n)) (by
    rw [hcs]
    unfold encs
    rw [List.getElem?_map]
    have h2 := (T.cr_at i hi n hn).1
    have h3 : n < ((T.pre 27).getD i []).length := by rw [hl]; exact hn
    rw [List.getD_eq_getElem?_getD, List.getElem?_eq_getElem h3] at h2
    rw [List.getElem?_eq_getElem h3]
    simp only [Option.map_some]
    rw [← h2]
    rfl)
  rw [add_plain, show i * kA.sz + n = i * 3 + n from rfl, blk_cell hlc] at h1
  exact h1
theorem add3 : ∀ s, s < 3 → ∀ r, r < 3 → tegularef05_Add.f 10 3 ((s : Nat) : Int) ((r : Nat) : Int) = some (((s + r) % 3 : Nat) : Int) := by decide +kernel
/-- The blocks that Projective knows. -/
structure PSt (w0 : World) (lc : Array Value) (gl bd : Nat) (vG : Value) (wr : World) : Prop where
  res : wr.heap[w0.heap.size]? = some (.cells #[.int .i64 0, .slice none 0 0] 26 (0, 0))
  num : wr.heap[bd]? = some (.cells #[.int .i64 13, vG] 26 (0, 0))
  crd : wr.heap[gl]? = some (.cells lc 58 (0, 0))
  low : w0.heap.size < bd
  bel : Below w0.heap.size w0 wr
theorem PSt.grown {w0 wr w1 : World} {lc : Array Value} {gl bd : Nat} {vG : Value} (h : PSt w0 lc gl bd vG wr) {row : Option Nat} (hg : wr.grownBy w1 row) (hr : ∀ k, row = some k → w0.heap.size ≤ k ∧ ∃ cells q, (q = 3 ∨ q = 56) ∧ wr.heap[k]? = some (.cells cells q (0, 0))) : PSt w0 lc gl bd vG w1 := by
  have hne : ∀ {k t : Nat} {cs : Array Value}, wr.heap[k]? = some (.cells cs t (0, 0)) → t ≠ 3 → t ≠ 56 → some k ≠ row := by
    intro k t cs hk h3 h56 he
    obtain ⟨_, cells, q, hq, hc⟩ := hr k he.symm
    rw [hk] at hc
    injection hc with hc
    injection hc with _ hc
    rcases hq with hq | hq
    · exact h3 (hc.trans hq)
    · exact h56 (hc.trans hq)
  exact ⟨blk_grown h.res hg (hne h.res (by decide) (by decide)), blk_grown h.num hg (hne h.num (by decide) (by decide)), blk_grown h.crd hg (hne h.crd (by decide) (by decide)), h.low, h.bel.grown hg h.bel.size (fun k hk => (hr k hk).1)⟩
theorem PSt.below {w0 wr w1 : World} {lc : Array Value} {gl bd : Nat} {vG : Value} (h : PSt w0 lc gl bd vG wr) (hb : Below wr.heap.size wr w1) : PSt w0 lc gl bd vG w1 :=
  ⟨blk_below h.res hb, blk_below h.num hb, blk_below h.crd hb, h.low, below_step h.bel hb⟩
theorem PSt.set {w0 wr : World} {lc : Array Value} {gl bd : Nat} {vG : Value} (h : PSt w0 lc gl bd vG wr) (v : Value) : PSt w0 lc gl bd v (wr.setCell ⟨bd, 1, none⟩ v) :=
  ⟨blk_far h.res (by have := h.low; show w0.heap.size ≠ bd; omega) _, blk_set h.num 1 v, blk_far h.crd (fun e => by
    have e2 : gl = bd := e
    have h1 := h.crd
    rw [e2, h.num] at h1
    injection h1 with h1
    injection h1 with _ h1
    cases h1) _, h.low, below_set h.bel (by have := h.low; omega)⟩
theorem own_block' {w : World} {base n : Nat} {e : TypeId} {v : Value} {xs : List Value} (h : w.ownsRow base e 1 v n xs) (he : e = 3 ∨ e = 56) : ∀ k, v.ownBlock = some k → base ≤ k ∧ ∃ cells q, (q = 3 ∨ q = 56) ∧ w.heap[k]? = some (.cells cells q (0, 0)) := fun k hk => by
  obtain ⟨cells, hc⟩ := own_typed h k hk
  exact ⟨own_base h k hk, cells, e, he, hc⟩
theorem encs_snoc' (xs : List Int) (x : Int) : encs (Value.int .i64) xs ++ [.int .i64 x] = encs (Value.int .i64) (xs ++ [x]) := by simp [encs]
/-- A world in which all that was is as it was. -/
structure BW' (w : World) where
  w' : World
  h : Below w.heap.size w w'
instance (w : World) : Nonempty (BW' w) := ⟨⟨w, Below.refl _ _⟩⟩
theorem region_quiet_bw' {P : Program} {id : Nat} {Q : Exit → Act → World → Prop} {a : Act} {w : World} {l : List Oper} (hm : P.follows .mixedOrders = true) (hB : Region.lexB .any l.toArray = true)
    (h : wpQuiet P l.toArray (fun w' => ∃ X : BW' w, w' = X.w') (fun a' => ∀ w', (∃ X : BW' w, w' = X.w') → Q .normal a' w') l a) : (Code.region id l.toArray true).wp P Q a w :=
  wp_region_quiet (C := fun w' => ∃ X : BW' w, w' = X.w') hm hB ⟨⟨w.drew, below_drew (Below.refl _ _)⟩, rfl⟩ (by simpa using h)

set_option maxHeartbeats 8000000 in
set_option maxRecDepth 100000 in
theorem proj3 (w : World) : Calls Try.prog 38 #[.int .i64 3] w fun e w' => ∃ v, e = .returned (.agg #[.int .i64 13, v]) ∧ Kd.S (Kd.slice 3 (Kd.int .i64)) 56 w' w.heap.size (fun _ => True) v (T.linesUpto 13) ∧ Below w.heap.size w w' := by
  have hu26 := Try.underlying26
  have hu58 := Try.underlying58
  obtain ⟨i3, hi3, hz30, hz31, hz32⟩ := info_parts info3
  have HI3 := Aside0.mk hi3
  have HZ30 := Aside0.mk hz30
  have HZ31 := Aside0.mk hz31
  have HZ32 := Aside0.mk hz32
  obtain ⟨i56, hi56, hz560, hz561, hz562⟩ := info_parts info56
  have HI56 := Aside0.mk hi56
  have HZ560 := Aside0.mk hz560
  have HZ561 := Aside0.mk hz561
  have HZ562 := Aside0.mk hz562
  clear hi3 hz30 hz31 hz32 hi56 hz560 hz561 hz562
  go_enter Try.func38, Try.ntmps38
  go_wp2_with fail
  refine (coords3 _).mono ?_
  rintro e w1 ⟨v, rfl, hR, hb⟩
  obtain ⟨gl, cl, lc, rfl, hlc, hgl, hcl, hcr⟩ := crd_cells hR
  rw [World.size_alloc] at hgl
  have hres := blk_below (blk_new w (.cells #[.int .i64 0, .slice none 0 0] 26)) hb
  have HS := Aside0.mk (show PSt w lc gl w1.heap.size (.slice none 0 0) (w1.alloc (.cells #[.int .i64 13, .slice none 0 0] 26)) from ⟨blk_alloc hres _, blk_new _ _, blk_alloc hlc _, blk_lt hres, below_alloc (below_then (below_alloc (Below.refl _ _) _) (by rw [World.size_alloc]; omega) hb) _⟩)
  have HCR := Aside0.mk hcr
  have hgz := blk_lt hlc
  clear hR hb hcr hres hlc
  go_wp2_with fail
  have hM0 : Aside0 (T.M2 w.heap.size (.slice none 0 0) (.slice none 0 0) (T.linesUpto 0) [] (w1.alloc (.cells #[.int .i64 13, .slice none 0 0] 26))) := ⟨⟨fun _ => False, fun _ => False, fun _ h => h.elim, Kd.S_nil _ _ _ _ _, Kd.R_nil _ _ _ _ _⟩⟩
  generalize w1.heap.size = bd at HS hgz ⊢
  go_loopw [5] (fun i wr => ∃ j : Nat, j ≤ 13 ∧ i = .int .i64 j ∧ ∃ vG, Aside0 (PSt w lc gl bd vG wr) ∧ Aside0 (T.M2 w.heap.size vG (.slice none 0 0) (T.linesUpto j) [] wr)) (fun i _ => 13 - (intOf i).toNat)
  case atStart => exact ⟨0, by omega, rfl, _, HS, hM0⟩
  case round =>
    obtain ⟨i, hi, rfl, vG, S1, M1⟩ := hrel
    by_cases hi13 : i < 13
    · have di : decide ((i : Int) < 13) = true := decide_eq_true (by omega)
      go_wp2_with fail
      go_loopw [6, 7] (fun li k wr => ∃ j : Nat, j ≤ 13 ∧ k = .int .i64 j ∧ Aside0 (PSt w lc gl bd vG wr) ∧ Aside0 (T.M2 w.heap.size vG li (T.linesUpto i) (T.lineUpto i j) wr)) (fun _ k _ => 13 - (intOf k).toNat)
      case atStart => exact ⟨0, by omega, rfl, S1, M1⟩
      case round =>
        obtain ⟨k, hk, rfl, S2, M2⟩ := hrel
        by_cases hk13 : k < 13
        · have dk : decide ((k : Int) < 13) = true := decide_eq_true (by omega)
          clear S1 M1
          go_wp2_with fail
          go_loopw [8, 9] (fun s n wr => ∃ j : Nat, j ≤ 3 ∧ n = .int .i64 j ∧ s = .int .i64 ((T.sm i k j : Nat) : Int) ∧ Aside0 (PSt w lc gl bd vG wr) ∧ Aside0 (T.M2 w.heap.size vG u6 (T.linesUpto i) (T.lineUpto i k) wr)) (fun _ n _ => 3 - (intOf n).toNat)
          case atStart => exact ⟨0, by omega, rfl, rfl, S2, M2⟩
          case round =>
            obtain ⟨n, hn, rfl, rfl, S3, M3⟩ := hrel
            by_cases hn3 : n < 3
            · have CI := Aside0.mk (T.cr_at i hi13 n hn3).2
              have CK := Aside0.mk (T.cr_at k hk13 n hn3).2
              have HADD : Aside0 (tegularef05_Add.f 10 3 ((T.sm i k n : Nat) : Int) ((T.cr i n * T.cr k n % 3 : Nat) : Int) = some ((T.sm i k (n + 1) : Nat) : Int)) := ⟨add3 _ (by have := T.sm_le i k n; omega) _ (by omega)⟩
              have hbi : ∀ X : BW' wr, X.w'.cell? ⟨gl, i * 3 + n, none⟩ = some (.int .i64 (T.cr i n)) := fun X => (blk_cell (blk_below S3.out.crd X.h) _).trans (HCR.out i hi13 n hn3)
              have hbk : ∀ X : BW' wr, X.w'.cell? ⟨gl, k * 3 + n, none⟩ = some (.int .i64 (T.cr k n)) := fun X => (blk_cell (blk_below S3.out.crd X.h) _).trans (HCR.out k hk13 n hn3)
              have dn : decide ((n : Int) < 3) = true := decide_eq_true (by omega)
              go_wp2_with fail
              refine region_quiet_bw' (by kernel_rfl) (by kernel_rfl) ?_
              repeat (first | go_big_quiet_step ((first | (go_at_call 50; rename_i X; refine (mul3 (T.cr i n) (T.cr k n) CI.out CK.out _).mono ?_; rintro e w5 ⟨rfl, hb5⟩; exact ⟨rfl, ⟨⟨w5, below_step X.h hb5⟩, rfl⟩⟩) | (go_at_call 49; rename_i X; refine (tegularef05_Add.calls 10 3 (T.sm i k n : Nat) ((T.cr i n * T.cr k n % 3 : Nat) : Int) ((T.sm i k (n + 1) : Nat) : Int) _ HADD.out).mono ?_; rintro e w5 ⟨rfl, hb5⟩; exact ⟨rfl, ⟨⟨w5, below_step X.h hb5⟩, rfl⟩⟩))) | quiet_step ((first | (go_at_call 50; rename_i X; refine (mul3 (T.cr i n) (T.cr k n) CI.out CK.out _).mono ?_; rintro e w5 ⟨rfl, hb5⟩; exact ⟨rfl, ⟨⟨w5, below_step X.h hb5⟩, rfl⟩⟩) | (go_at_call 49; rename_i X; refine (tegularef05_Add.calls 10 3 (T.sm i k n : Nat) ((T.cr i n * T.cr k n % 3 : Nat) : Int) ((T.sm i k (n + 1) : Nat) : Int) _ HADD.out).mono ?_; rintro e w5 ⟨rfl, hb5⟩; exact ⟨rfl, ⟨⟨w5, below_step X.h hb5⟩, rfl⟩⟩))))
              refine wpQuiet_nil ?_
              rintro _ ⟨X, rfl⟩
              have S4 := Aside0.mk (S3.out.below X.h)
              have M4 := Aside0.mk (M3.out.below X.h)
              clear S3 M3 hbi hbk
              go_wp2
              go_roundw
              case rel => exact ⟨n + 1, by omega, by go_num, rfl, S4, M4⟩
              case measure => simp [intOf]; omega
            · have e3 : n = 3 := by omega
              cases hz : (T.sm i k 3 == 0) with
              | true =>
                have HL := Aside0.mk (T.lineUpto_yes hz)
                have hz2 : (((T.sm i k n : Nat) : Int) == 0) = true := by rw [e3, beq_iff_eq]; rw [beq_iff_eq] at hz; omega
                have HZ := Aside0.mk hz
                have hlen := T.lineUpto_len i k
                obtain ⟨m, hm⟩ : ∃ m, m = (T.lineUpto i k).length := ⟨_, rfl⟩
                obtain ⟨AL, cL, hsl⟩ := M3.out.sliceL
                rw [← hm] at hsl hlen
                subst hsl
                have HOWN := Aside0.mk (M3.out.own)
                rw [← hm] at HOWN
                have HMM := Aside0.mk hm
                clear hz hm S2 M2 e3
                go_wp2_with (at_builtin; refine wpList_append_lies _ rfl _ _ _ rfl w.heap.size 3 i3 _ 1 8 Try.underlying56 HI3.out HZ30.out HZ31.out HZ32.out rfl (by omega) (.slice AL m cL) m _ rfl (HOWN.out.alloc _) ⟨wr.heap.size, 0, none⟩ 1 1 [.int .i64 k] rfl rfl (World.news_of_block (cs := #[.int .i64 k]) (t := 3) (fr := (0, 0)) (heap_alloc_new wr _)) (by simp [Value.oneCell']) (by omega) (by unfold maxLen; omega) (by omega) (by rw [World.size_alloc]; exact Nat.le_succ_of_le S3.out.bel.size) (wr.heap.size + 1) (by rw [World.size_alloc]) ?_; intro gg cap1 w12 hown12 hgrow12 hat12 hlt12; have S4 := Aside0.mk ((S3.out.below (below_alloc (Below.refl _ _) _)).grown hgrow12 (own_block' (HOWN.out.alloc _) (.inl rfl))); have M4 := Aside0.mk ((M3.out.alloc _).cur (vL' := .slice (some ⟨gg, 0, none⟩) (m + 1) cap1) (cu' := T.lineUpto i (k + 1)) hgrow12 (hat12.elim (fun e => .inl (by rw [e]; rfl)) (fun e => .inr ⟨gg, rfl, by rw [World.size_alloc]; omega⟩)) (by rw [HL.out, ← encs_snoc', List.length_append, ← HMM.out]; exact hown12)); clear hown12 hgrow12 hat12 hlt12)
                clear S3 M3
                go_roundw
                case rel => exact ⟨k + 1, by omega, by go_num, S4, M4⟩
                case measure => simp [intOf]; omega
              | false =>
                have HL := Aside0.mk (T.lineUpto_no hz)
                have hz2 : (((T.sm i k n : Nat) : Int) == 0) = false := by rw [e3, beq_eq_false_iff_ne]; rw [beq_eq_false_iff_ne] at hz; omega
                have HZ := Aside0.mk hz
                have M4 : Aside0 (T.M2 w.heap.size vG u6 (T.linesUpto i) (T.lineUpto i (k + 1)) wr) := ⟨by rw [HL.out]; exact M3.out⟩
                clear hz S2 M2 e3 M3
                go_wp2
                go_roundw
                case rel => exact ⟨k + 1, by omega, by go_num, S3, M4⟩
                case measure => simp [intOf]; omega
        · have ek : k = 13 := by omega
          have M3 : Aside0 (T.M2 w.heap.size vG u6 (T.linesUpto i) (T.lineUpto i 13) wr) := ⟨by have h := M2.out; rw [ek] at h; exact h⟩
          clear M2 ek S1 M1
          obtain ⟨inner, hin, hrest⟩ := (M3.out.alloc (.cells #[u6] 56)).row
          rw [T.linesUpto_len] at hin hrest
          have HIN := Aside0.mk hin
          have HREST := Aside0.mk (@hrest)
          obtain ⟨AG, cG, hG⟩ := M3.out.slice
          rw [T.linesUpto_len] at hG
          obtain ⟨AL, cL, hsl⟩ := M3.out.sliceL
          obtain ⟨m, hm⟩ : ∃ m, m = (T.lineUpto i 13).length := ⟨_, rfl⟩
          rw [← hm] at hsl
          clear hm
          subst hG hsl
          clear hin hrest
          have hcn1 := (blk_cell S2.out.num 1).trans (rfl : _ = some _)
          simp at hcn1
          go_wp2_with (at_builtin; refine wpList_append_lies _ rfl _ _ _ rfl w.heap.size 56 i56 _ 1 24 Try.underlying24 HI56.out HZ560.out HZ561.out HZ562.out rfl (by omega) (.slice AG i cG) i _ rfl HIN.out ⟨wr.heap.size, 0, none⟩ 1 1 [.slice AL m cL] rfl rfl (World.news_of_block (cs := #[.slice AL m cL]) (t := 56) (fr := (0, 0)) (heap_alloc_new wr _)) (by simp [Value.oneCell']) (by omega) (by unfold maxLen; omega) (by omega) (by rw [World.size_alloc]; exact Nat.le_succ_of_le S2.out.bel.size) (wr.heap.size + 1) (by rw [World.size_alloc]) ?_; intro gg cap1 w15 hown15 hgrow15 hat15 hlt15; have S15 := Aside0.mk ((S2.out.below (below_alloc (Below.refl _ _) _)).grown hgrow15 (own_block' HIN.out (.inr rfl))); have M15 := Aside0.mk (HREST.out (vG' := .slice (some ⟨gg, 0, none⟩) (i + 1) cap1) hgrow15 (hat15.elim (fun e => .inl (by rw [e]; rfl)) (fun e => .inr ⟨gg, rfl, by rw [World.size_alloc]; omega⟩)) hown15); clear hown15 hgrow15 hat15 hlt15 hcn1; have hcn1 := (blk_cell S15.out.num 1).trans (rfl : _ = some _); simp at hcn1; have hfn1 := blk_frozen S15.out.num 1)
          have S16 := Aside0.mk (S15.out.set (.slice (some ⟨gg, 0, none⟩) (i + 1) cap1))
          have M16 := Aside0.mk (M15.out.set S15.out.num (by decide) 1 (.slice (some ⟨gg, 0, none⟩) (i + 1) cap1))
          rw [← T.linesUpto_succ] at M16
          clear S15 M15 HIN HREST hcn1 hfn1
          go_roundw
          case rel => exact ⟨i + 1, by omega, by go_num, _, S16, M16⟩
          case measure => simp [intOf]; omega
    · have ei : i = 13 := by omega
      have M2 : Aside0 (T.M2 w.heap.size vG (.slice none 0 0) (T.linesUpto 13) [] wr) := ⟨by have h := M1.out; rw [ei] at h; exact h⟩
      clear M1 hM0 HS ei
      obtain ⟨AG, cG, hG⟩ := M2.out.slice
      rw [T.linesUpto_len] at hG
      subst hG
      have hcn0 := (blk_cell S1.out.num 0).trans (rfl : _ = some _)
      have hcn1 := (blk_cell S1.out.num 1).trans (rfl : _ = some _)
      have hcr0 := (blk_cell S1.out.res 0).trans (rfl : _ = some _)
      have hcr1 := (blk_cell S1.out.res 1).trans (rfl : _ = some _)
      have hfr0 := blk_frozen S1.out.res 0
      have hfr1 := blk_frozen S1.out.res 1
      simp at hcn0 hcn1 hcr0 hcr1
      go_wp2
      have hB1 := blk_set S1.out.res 0 (.int .i64 13)
      exact bodyPost_ret (results_cell_row rfl _ _ w.heap.size 26 #[.int .i64 13, .slice AG 13 cG] (0, 0) _ rfl (blk_put (cs := #[.int .i64 13, .slice none 0 0]) (blk_put (cs := #[.int .i64 0, .slice none 0 0]) S1.out.res 0 _ rfl) 1 _ rfl) Try.underlying26 rfl (by kernel_rfl)) rfl ⟨_, rfl, ((M2.out.set S1.out.res (by decide) 0 (.int .i64 13)).set hB1 (by decide) 1 (.slice AG 13 cG)).groups, below_set (below_set S1.out.bel (Nat.le_refl _)) (Nat.le_refl _)⟩
/-- What Projective answers (told at size 3 alone). -/
def tegularef06_Projective.f (a0 : Int) : Option (Int × (List (List Int))) := if a0 = 3 then some (13, T.linesUpto 13) else none
theorem tegularef06_Projective.calls (a0 : Int) (r1 : Int) (r2 : List (List Int)) (w : World) (h : tegularef06_Projective.f a0 = some (r1, r2)) :
    Calls Try.prog 38 #[.int .i64 a0] w fun e w' => ∃ v1_ : Value, e = .returned (.agg #[.int .i64 r1, v1_]) ∧ Kd.S (Kd.slice 3 (Kd.int .i64)) 56 w' w.heap.size (fun _ => True) v1_ r2 ∧ Below w.heap.size w w' := by
  unfold tegularef06_Projective.f at h
  split at h
  · rename_i e
    subst e
    injection h with h
    injection h with h1 h2
    subst h1 h2
    exact proj3 w
  · cases h
end Go.Proofs.Ytebnladkogkpfaa.Q
