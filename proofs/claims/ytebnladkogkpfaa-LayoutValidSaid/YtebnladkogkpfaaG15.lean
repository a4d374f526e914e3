import Derived.Test.YtebnladkogkpfaaG39
import Derived.Test.YtebnladkogkpfaaQ6
import Derived.Test.YtebnladkogkpfaaQ8
/-! The walks of layout's exported functions: each calls measure. -/
namespace Go.Proofs.Ytebnladkogkpfaa.Q
open Go.RowKit Go.Proofs.YtebnladkogkpfaaW.PrintWords Go.Proofs.YtebnladkogkpfaaW.PrintLast Go.Proofs.YtebnladkogkpfaaW.PrintMore
open T (prs)
set_option linter.unusedVariables false
set_option linter.unusedSimpArgs false

/-- layout_Blocks: function 24. -/
def layout_Blocks.f (a0_0 : Int) (l0_1 : List (List Int)) (a0_2 : Int) (a0_3 : Int) : Option Int := some (measure a0_0 l0_1 a0_2 a0_3).1.cap
set_option maxHeartbeats 8000000 in
set_option maxRecDepth 100000 in
theorem layout_Blocks.calls (a0_0 : Int) (A0_1 : Option Addr) (c0_1 : Nat) (l0_1 : List (List Int)) (a0_2 : Int) (a0_3 : Int) (r : Int) (w : World) (hr0_1 : Kd.C (Kd.slice 3 (Kd.int .i64)) w A0_1 l0_1.length l0_1) (hc0_1 : l0_1.length ≤ c0_1) (h : layout_Blocks.f a0_0 l0_1 a0_2 a0_3 = some r) :
    Calls Try.prog 24 #[.agg #[.int .i64 a0_0, .slice A0_1 l0_1.length c0_1, .int .i64 a0_2, .int .i64 a0_3]] w fun e w' => e = .returned (.int .i64 r) ∧ Below w.heap.size w w' := by
  have hu26 := Try.underlying26
  have hu28 := Try.underlying28
  have hu31 := Try.underlying31
  have hu52 := Try.underlying52
  have hu67 := Try.underlying67
  have HR := Aside0.mk hr0_1
  have HC := Aside0.mk hc0_1
  obtain ⟨x, ok, hm⟩ : ∃ x ok, measure a0_0 l0_1 a0_2 a0_3 = (x, ok) := ⟨_, _, rfl⟩
  have HM := Aside0.mk hm
  clear hr0_1 hc0_1 hm
  go_enter Try.func24, Try.ntmps24
  go_wp2_with fail
  refine (measure_calls a0_0 A0_1 c0_1 l0_1 a0_2 a0_3 _ (by repeat (first | exact HR.out | apply Kd.C_alloc)) HC.out).mono ?_
  rintro e w1 ⟨v, rfl, hN, hb⟩
  rw [HM.out] at hN ⊢
  obtain ⟨A1, c1, A7, c7, A8, c8, rfl, h1, h2, h3, h4, h5, h6⟩ := hN
  have H1 := Aside0.mk h1
  have H2 := Aside0.mk h2
  have H3 := Aside0.mk h3
  have H4 := Aside0.mk h4
  have H5 := Aside0.mk h5
  have H6 := Aside0.mk h6
  have HB := Aside0.mk (below_then (by repeat (first | exact Below.refl _ _ | apply below_alloc)) (by repeat (first | exact Nat.le_refl _ | (rw [World.size_alloc]; apply Nat.le_succ_of_le))) hb : Below w.heap.size w w1)
  have HB0 := Aside0.mk hb
  clear h1 h2 h3 h4 h5 h6 hb
  unfold layout_Blocks.f at h
  rw [HM.out] at h
  obtain rfl := Option.some.inj h
  clear h
  go_wp2
  go_ret
  exact ⟨rfl, below_alloc HB.out _⟩


/-- layout_Width: function 26. -/
def layout_Width.f (a0_0 : Int) (l0_1 : List (List Int)) (a0_2 : Int) (a0_3 : Int) : Option Int := some (measure a0_0 l0_1 a0_2 a0_3).1.width
set_option maxHeartbeats 8000000 in
set_option maxRecDepth 100000 in
theorem layout_Width.calls (a0_0 : Int) (A0_1 : Option Addr) (c0_1 : Nat) (l0_1 : List (List Int)) (a0_2 : Int) (a0_3 : Int) (r : Int) (w : World) (hr0_1 : Kd.C (Kd.slice 3 (Kd.int .i64)) w A0_1 l0_1.length l0_1) (hc0_1 : l0_1.length ≤ c0_1) (h : layout_Width.f a0_0 l0_1 a0_2 a0_3 = some r) :
    Calls Try.prog 26 #[.agg #[.int .i64 a0_0, .slice A0_1 l0_1.length c0_1, .int .i64 a0_2, .int .i64 a0_3]] w fun e w' => e = .returned (.int .i64 r) ∧ Below w.heap.size w w' := by
  have hu26 := Try.underlying26
  have hu28 := Try.underlying28
  have hu31 := Try.underlying31
  have hu52 := Try.underlying52
  have hu67 := Try.underlying67
  have HR := Aside0.mk hr0_1
  have HC := Aside0.mk hc0_1
  obtain ⟨x, ok, hm⟩ : ∃ x ok, measure a0_0 l0_1 a0_2 a0_3 = (x, ok) := ⟨_, _, rfl⟩
  have HM := Aside0.mk hm
  clear hr0_1 hc0_1 hm
  go_enter Try.func26, Try.ntmps26
  go_wp2_with fail
  refine (measure_calls a0_0 A0_1 c0_1 l0_1 a0_2 a0_3 _ (by repeat (first | exact HR.out | apply Kd.C_alloc)) HC.out).mono ?_
  rintro e w1 ⟨v, rfl, hN, hb⟩
  rw [HM.out] at hN ⊢
  obtain ⟨A1, c1, A7, c7, A8, c8, rfl, h1, h2, h3, h4, h5, h6⟩ := hN
  have H1 := Aside0.mk h1
  have H2 := Aside0.mk h2
  have H3 := Aside0.mk h3
  have H4 := Aside0.mk h4
  have H5 := Aside0.mk h5
  have H6 := Aside0.mk h6
  have HB := Aside0.mk (below_then (by repeat (first | exact Below.refl _ _ | apply below_alloc)) (by repeat (first | exact Nat.le_refl _ | (rw [World.size_alloc]; apply Nat.le_succ_of_le))) hb : Below w.heap.size w w1)
  have HB0 := Aside0.mk hb
  clear h1 h2 h3 h4 h5 h6 hb
  unfold layout_Width.f at h
  rw [HM.out] at h
  obtain rfl := Option.some.inj h
  clear h
  go_wp2
  go_ret
  exact ⟨rfl, below_alloc HB.out _⟩


/-- layout_Valid: function 28. -/
def layout_Valid.f (a0_0 : Int) (l0_1 : List (List Int)) (a0_2 : Int) (a0_3 : Int) : Option Bool := some (measure a0_0 l0_1 a0_2 a0_3).2
set_option maxHeartbeats 8000000 in
set_option maxRecDepth 100000 in
theorem layout_Valid.calls (a0_0 : Int) (A0_1 : Option Addr) (c0_1 : Nat) (l0_1 : List (List Int)) (a0_2 : Int) (a0_3 : Int) (r : Bool) (w : World) (hr0_1 : Kd.C (Kd.slice 3 (Kd.int .i64)) w A0_1 l0_1.length l0_1) (hc0_1 : l0_1.length ≤ c0_1) (h : layout_Valid.f a0_0 l0_1 a0_2 a0_3 = some r) :
    Calls Try.prog 28 #[.agg #[.int .i64 a0_0, .slice A0_1 l0_1.length c0_1, .int .i64 a0_2, .int .i64 a0_3]] w fun e w' => e = .returned (.bool r) ∧ Below w.heap.size w w' := by
  have hu26 := Try.underlying26
  have hu28 := Try.underlying28
  have hu31 := Try.underlying31
  have hu52 := Try.underlying52
  have hu67 := Try.underlying67
  have HR := Aside0.mk hr0_1
  have HC := Aside0.mk hc0_1
  obtain ⟨x, ok, hm⟩ : ∃ x ok, measure a0_0 l0_1 a0_2 a0_3 = (x, ok) := ⟨_, _, rfl⟩
  have HM := Aside0.mk hm
  clear hr0_1 hc0_1 hm
  go_enter Try.func28, Try.ntmps28
  go_wp2_with fail
  refine (measure_calls a0_0 A0_1 c0_1 l0_1 a0_2 a0_3 _ (by repeat (first | exact HR.out | apply Kd.C_alloc)) HC.out).mono ?_
  rintro e w1 ⟨v, rfl, hN, hb⟩
  rw [HM.out] at hN ⊢
  obtain ⟨A1, c1, A7, c7, A8, c8, rfl, h1, h2, h3, h4, h5, h6⟩ := hN
  have H1 := Aside0.mk h1
  have H2 := Aside0.mk h2
  have H3 := Aside0.mk h3
  have H4 := Aside0.mk h4
  have H5 := Aside0.mk h5
  have H6 := Aside0.mk h6
  have HB := Aside0.mk (below_then (by repeat (first | exact Below.refl _ _ | apply below_alloc)) (by repeat (first | exact Nat.le_refl _ | (rw [World.size_alloc]; apply Nat.le_succ_of_le))) hb : Below w.heap.size w w1)
  have HB0 := Aside0.mk hb
  clear h1 h2 h3 h4 h5 h6 hb
  unfold layout_Valid.f at h
  rw [HM.out] at h
  obtain rfl := Option.some.inj h
  clear h
  go_wp2
  go_ret
  exact ⟨rfl, below_alloc HB.out _⟩


def groupsN (x : Nums) : Option Int := (layout_numbers_groups.f x.d x.l x.tiles x.spare x.width x.r x.n x.ranks x.on x.homes x.cap)
def dataN (x : Nums) : Option Int := (layout_numbers_data.f x.d x.l x.tiles x.spare x.width x.r x.n x.ranks x.on x.homes x.cap)
def hasN (x : Nums) (g p : Int) : Option Bool := (layout_numbers_has.f x.d x.l x.tiles x.spare x.width x.r x.n x.ranks x.on x.homes x.cap g p)
def homeN (x : Nums) (g p : Int) : Option (Int × Int) := (layout_numbers_home.f x.d x.l x.tiles x.spare x.width x.r x.n x.ranks x.on x.homes x.cap g p)
def atN (x : Nums) (d b : Int) : Option (Int × Int) := layout_numbers_at.f 100 x.d x.l x.tiles x.spare x.width x.r x.n x.ranks x.on x.homes x.cap d b
theorem mul_nn {a b : Int} (ha : 0 ≤ a) (hb : 0 ≤ b) : 0 ≤ a * b := Int.mul_nonneg ha hb
/-- What is known of the numbers of a valid layout. -/
structure Good (a0 : Int) (l : List (List Int)) (a2 a3 : Int) (x : Nums) : Prop where
  f : formedB a0 l = true
  bal : (checkD a0 l).2.2 = 0
  ok : measOk (headLen l) (prs l 0 0) l.length a2 a3
  x : x = ⟨a0, l, a2, a3, headLen l, prs l 0 0, l.length, T.ranksUpto l l.length, T.onAll l a0.toNat, a2 * prs l 0 0, a2 * prs l 0 0 + a3⟩
theorem good_of {a0 : Int} {l : List (List Int)} {a2 a3 : Int} {x : Nums} (h : measure a0 l a2 a3 = (x, true)) : Good a0 l a2 a3 x := by
  unfold measure at h
  by_cases hz : (checkD a0 l).2.2 = 0
  · rw [if_pos hz] at h
    have hf : formedB a0 l = true := by
      cases hb : formedB a0 l with
      | true => rfl
      | false =>
        unfold checkD at hz
        rw [hb, if_neg (by decide)] at hz
        cases hz
    have e : a0 = (a0.toNat : Int) := (fm_of hf).1
    unfold measD at h
    split at h
    · rename_i hk
      injection h with h1 h2
      exact ⟨hf, hz, hk, by rw [← h1, ← e]⟩
    · injection h with h1 h2
      cases h2
  · rw [if_neg hz] at h
    injection h with h1 h2
    cases h2
structure Bds (x : Nums) : Prop where
  w : 4 ≤ x.width ∧ x.width ≤ 16
  g : 0 ≤ x.tiles * x.n ∧ x.tiles * x.n ≤ 4096
  s : 0 ≤ x.tiles * x.n * (x.width - 3) ∧ x.tiles * x.n * (x.width - 3) ≤ 65536
  h : 0 ≤ x.homes ∧ x.homes ≤ 65536
  c : 0 ≤ x.cap ∧ x.cap ≤ 65536
theorem bds_of {a0 : Int} {l : List (List Int)} {a2 a3 : Int} {x : Nums} (h : Good a0 l a2 a3 x) : Bds x := by
  obtain ⟨_, _, ⟨⟨k1, k2, k3, k4, k5, k6⟩, k7, k8, k9⟩, rfl⟩ := h
  have e1 : 0 ≤ a2 * (l.length : Int) := mul_nn (by omega) (by omega)
  have e2 : 0 ≤ a2 * (prs l 0 0 : Int) := mul_nn (by omega) (by omega)
  have e3 : 0 ≤ a2 * (l.length : Int) * ((headLen l : Int) - 3) := mul_nn e1 (by omega)
  exact ⟨⟨k1, k2⟩, ⟨e1, k7⟩, ⟨e3, k8⟩, ⟨e2, by show a2 * (prs l 0 0 : Int) ≤ 65536; omega⟩, ⟨by show 0 ≤ a2 * (prs l 0 0 : Int) + a3; omega, k9⟩⟩
theorem info52 : (Try.prog.info? 52).map (fun i => (i.zero, i.size, i.bytes)) = some (some (.agg #[.int .i64 0, .int .i64 0]), 2, 16) := by kernel_rfl

/-- layout_Groups: function 25. -/
def layout_Groups.f (a0_0 : Int) (l0_1 : List (List Int)) (a0_2 : Int) (a0_3 : Int) : Option Int := groupsN (measure a0_0 l0_1 a0_2 a0_3).1
set_option maxHeartbeats 8000000 in
set_option maxRecDepth 100000 in
theorem layout_Groups.calls (a0_0 : Int) (A0_1 : Option Addr) (c0_1 : Nat) (l0_1 : List (List Int)) (a0_2 : Int) (a0_3 : Int) (r : Int) (w : World) (hr0_1 : Kd.C (Kd.slice 3 (Kd.int .i64)) w A0_1 l0_1.length l0_1) (hc0_1 : l0_1.length ≤ c0_1) (h : layout_Groups.f a0_0 l0_1 a0_2 a0_3 = some r) :
    Calls Try.prog 25 #[.agg #[.int .i64 a0_0, .slice A0_1 l0_1.length c0_1, .int .i64 a0_2, .int .i64 a0_3]] w fun e w' => e = .returned (.int .i64 r) ∧ Below w.heap.size w w' := by
  have hu26 := Try.underlying26
  have hu28 := Try.underlying28
  have hu31 := Try.underlying31
  have hu52 := Try.underlying52
  have hu67 := Try.underlying67
  have HR := Aside0.mk hr0_1
  have HC := Aside0.mk hc0_1
  obtain ⟨x, ok, hm⟩ : ∃ x ok, measure a0_0 l0_1 a0_2 a0_3 = (x, ok) := ⟨_, _, rfl⟩
  have HM := Aside0.mk hm
  clear hr0_1 hc0_1 hm
  go_enter Try.func25, Try.ntmps25
  go_wp2_with fail
  refine (measure_calls a0_0 A0_1 c0_1 l0_1 a0_2 a0_3 _ (by repeat (first | exact HR.out | apply Kd.C_alloc)) HC.out).mono ?_
  rintro e w1 ⟨v, rfl, hN, hb⟩
  rw [HM.out] at hN ⊢
  obtain ⟨A1, c1, A7, c7, A8, c8, rfl, h1, h2, h3, h4, h5, h6⟩ := hN
  have H1 := Aside0.mk h1
  have H2 := Aside0.mk h2
  have H3 := Aside0.mk h3
  have H4 := Aside0.mk h4
  have H5 := Aside0.mk h5
  have H6 := Aside0.mk h6
  have HB := Aside0.mk (below_then (by repeat (first | exact Below.refl _ _ | apply below_alloc)) (by repeat (first | exact Nat.le_refl _ | (rw [World.size_alloc]; apply Nat.le_succ_of_le))) hb : Below w.heap.size w w1)
  have HB0 := Aside0.mk hb
  clear h1 h2 h3 h4 h5 h6 hb
  unfold layout_Groups.f groupsN at h
  rw [HM.out] at h
  have HH := Aside0.mk h
  clear h
  go_wp2_with (go_at_call 45; refine (layout_numbers_groups.calls x.d A1 c1 x.l x.tiles x.spare x.width x.r x.n A7 c7 x.ranks A8 c8 x.on x.homes x.cap  r _ (by repeat (first | exact H1.out | apply Kd.C_alloc | apply Kd.C_drew)) H2.out (by repeat (first | exact H3.out | apply Kd.C_alloc | apply Kd.C_drew)) H4.out (by repeat (first | exact H5.out | apply Kd.C_alloc | apply Kd.C_drew)) H6.out HH.out).mono ?_; rintro e w2 ⟨rfl, hb2⟩; have HB2 := Aside0.mk (below_step (below_alloc HB.out _) hb2); clear hb2)
  go_ret
  exact ⟨rfl, HB2.out⟩


/-- layout_Data: function 30. -/
def layout_Data.f (a0_0 : Int) (l0_1 : List (List Int)) (a0_2 : Int) (a0_3 : Int) : Option Int := if (measure a0_0 l0_1 a0_2 a0_3).2 = true then dataN (measure a0_0 l0_1 a0_2 a0_3).1 else some 0
set_option maxHeartbeats 8000000 in
set_option maxRecDepth 100000 in
theorem layout_Data.calls (a0_0 : Int) (A0_1 : Option Addr) (c0_1 : Nat) (l0_1 : List (List Int)) (a0_2 : Int) (a0_3 : Int) (r : Int) (w : World) (hr0_1 : Kd.C (Kd.slice 3 (Kd.int .i64)) w A0_1 l0_1.length l0_1) (hc0_1 : l0_1.length ≤ c0_1) (h : layout_Data.f a0_0 l0_1 a0_2 a0_3 = some r) :
    Calls Try.prog 30 #[.agg #[.int .i64 a0_0, .slice A0_1 l0_1.length c0_1, .int .i64 a0_2, .int .i64 a0_3]] w fun e w' => e = .returned (.int .i64 r) ∧ Below w.heap.size w w' := by
  have hu26 := Try.underlying26
  have hu28 := Try.underlying28
  have hu31 := Try.underlying31
  have hu52 := Try.underlying52
  have hu67 := Try.underlying67
  have HR := Aside0.mk hr0_1
  have HC := Aside0.mk hc0_1
  obtain ⟨x, ok, hm⟩ : ∃ x ok, measure a0_0 l0_1 a0_2 a0_3 = (x, ok) := ⟨_, _, rfl⟩
  have HM := Aside0.mk hm
  clear hr0_1 hc0_1 hm
  go_enter Try.func30, Try.ntmps30
  go_wp2_with fail
  refine (measure_calls a0_0 A0_1 c0_1 l0_1 a0_2 a0_3 _ (by repeat (first | exact HR.out | apply Kd.C_alloc)) HC.out).mono ?_
  rintro e w1 ⟨v, rfl, hN, hb⟩
  rw [HM.out] at hN ⊢
  obtain ⟨A1, c1, A7, c7, A8, c8, rfl, h1, h2, h3, h4, h5, h6⟩ := hN
  have H1 := Aside0.mk h1
  have H2 := Aside0.mk h2
  have H3 := Aside0.mk h3
  have H4 := Aside0.mk h4
  have H5 := Aside0.mk h5
  have H6 := Aside0.mk h6
  have HB := Aside0.mk (below_then (by repeat (first | exact Below.refl _ _ | apply below_alloc)) (by repeat (first | exact Nat.le_refl _ | (rw [World.size_alloc]; apply Nat.le_succ_of_le))) hb : Below w.heap.size w w1)
  have HB0 := Aside0.mk hb
  clear h1 h2 h3 h4 h5 h6 hb
  unfold layout_Data.f dataN at h
  rw [HM.out] at h
  cases ok with
  | false =>
    rw [if_neg (by simp)] at h
    obtain rfl := Option.some.inj h
    clear h
    go_wp2
    go_ret
    exact ⟨rfl, below_alloc HB.out _⟩
  | true =>
    rw [if_pos rfl] at h
    have HH := Aside0.mk h
    clear h
    go_wp2_with (go_at_call 46; refine (layout_numbers_data.calls x.d A1 c1 x.l x.tiles x.spare x.width x.r x.n A7 c7 x.ranks A8 c8 x.on x.homes x.cap  r _ (by repeat (first | exact H1.out | apply Kd.C_alloc | apply Kd.C_drew)) H2.out (by repeat (first | exact H3.out | apply Kd.C_alloc | apply Kd.C_drew)) H4.out (by repeat (first | exact H5.out | apply Kd.C_alloc | apply Kd.C_drew)) H6.out HH.out).mono ?_; rintro e w2 ⟨rfl, hb2⟩; have HB2 := Aside0.mk (below_step (below_alloc HB.out _) hb2); clear hb2)
    go_ret
    exact ⟨rfl, HB2.out⟩


/-- layout_Home: function 15. -/
def layout_Home.f (a0_0 : Int) (l0_1 : List (List Int)) (a0_2 : Int) (a0_3 : Int) (a1 : Int) (a2 : Int) : Option (Int × Int × Int) := if (measure a0_0 l0_1 a0_2 a0_3).2 = true then (hasN (measure a0_0 l0_1 a0_2 a0_3).1 a1 a2).bind fun b => if b = true then (homeN (measure a0_0 l0_1 a0_2 a0_3).1 a1 a2).bind fun t => some (t.1, t.2, 0) else some (0, 0, 2) else some (0, 0, 1)
set_option maxHeartbeats 8000000 in
set_option maxRecDepth 100000 in
theorem layout_Home.calls (a0_0 : Int) (A0_1 : Option Addr) (c0_1 : Nat) (l0_1 : List (List Int)) (a0_2 : Int) (a0_3 : Int) (a1 : Int) (a2 : Int) (r1 : Int) (r2 : Int) (r3 : Int) (w : World) (hr0_1 : Kd.C (Kd.slice 3 (Kd.int .i64)) w A0_1 l0_1.length l0_1) (hc0_1 : l0_1.length ≤ c0_1) (h : layout_Home.f a0_0 l0_1 a0_2 a0_3 a1 a2 = some (r1, r2, r3)) :
    Calls Try.prog 15 #[.agg #[.int .i64 a0_0, .slice A0_1 l0_1.length c0_1, .int .i64 a0_2, .int .i64 a0_3], .int .i64 a1, .int .i64 a2] w fun e w' => e = .returned (.tuple #[.agg #[.int .i64 r1, .int .i64 r2], .int .i64 r3]) ∧ Below w.heap.size w w' := by
  have hu26 := Try.underlying26
  have hu28 := Try.underlying28
  have hu31 := Try.underlying31
  have hu52 := Try.underlying52
  have hu67 := Try.underlying67
  have HR := Aside0.mk hr0_1
  have HC := Aside0.mk hc0_1
  obtain ⟨x, ok, hm⟩ : ∃ x ok, measure a0_0 l0_1 a0_2 a0_3 = (x, ok) := ⟨_, _, rfl⟩
  have HM := Aside0.mk hm
  clear hr0_1 hc0_1 hm
  go_enter Try.func15, Try.ntmps15
  go_wp2_with fail
  refine (measure_calls a0_0 A0_1 c0_1 l0_1 a0_2 a0_3 _ (by repeat (first | exact HR.out | apply Kd.C_alloc)) HC.out).mono ?_
  rintro e w1 ⟨v, rfl, hN, hb⟩
  rw [HM.out] at hN ⊢
  obtain ⟨A1, c1, A7, c7, A8, c8, rfl, h1, h2, h3, h4, h5, h6⟩ := hN
  have H1 := Aside0.mk h1
  have H2 := Aside0.mk h2
  have H3 := Aside0.mk h3
  have H4 := Aside0.mk h4
  have H5 := Aside0.mk h5
  have H6 := Aside0.mk h6
  have HB := Aside0.mk (below_then (by repeat (first | exact Below.refl _ _ | apply below_alloc)) (by repeat (first | exact Nat.le_refl _ | (rw [World.size_alloc]; apply Nat.le_succ_of_le))) hb : Below w.heap.size w w1)
  have HB0 := Aside0.mk hb
  clear h1 h2 h3 h4 h5 h6 hb
  unfold layout_Home.f at h
  rw [HM.out] at h
  have HZ := Aside0.mk (blk_below (blk_new (w.alloc _) _) HB0.out)
  rw [World.size_alloc] at HZ
  have HZ1 := Aside0.mk (blk_alloc HZ.out (.cells #[.int .i64 x.d, .slice A1 x.l.length c1, .int .i64 x.tiles, .int .i64 x.spare, .int .i64 x.width, .int .i64 x.r, .int .i64 x.n, .slice A7 x.ranks.length c7, .slice A8 x.on.length c8, .int .i64 x.homes, .int .i64 x.cap] 67))
  cases ok with
  | false =>
    rw [if_neg (by simp)] at h
    replace h := Option.some.inj h
    simp only [Prod.mk.injEq] at h
    obtain ⟨rfl, rfl, rfl⟩ := h
    have hcz0 := (blk_cell HZ1.out 0).trans (rfl : _ = some _)
    have hfz0 := blk_frozen HZ1.out 0
    have hcz1 := (blk_cell HZ1.out 1).trans (rfl : _ = some _)
    have hfz1 := blk_frozen HZ1.out 1
    simp at hcz0 hcz1
    go_wp2
    exact bodyPost_ret (results_list (rs := [.cell 6 31, .tmp 7]) rfl (by simp) (.cell (w.heap.size + 1) 31 #[.int .i64 0, .int .i64 0] (0, 0) _ rfl (blk_put (cs := #[.int .i64 0, .int .i64 0]) (blk_put (cs := #[.int .i64 0, .int .i64 0]) HZ1.out 0 _ rfl) 1 _ rfl) Try.underlying31 rfl (by kernel_rfl) (.tmp .nil))) rfl ⟨rfl, below_set (below_set (below_alloc HB.out _) (by omega)) (by omega)⟩
  | true =>
    rw [if_pos rfl] at h
    obtain ⟨b, hb, h⟩ := Option.bind_eq_some_iff.1 h
    have HH := Aside0.mk hb
    unfold hasN at HH
    clear hb
    go_wp2_with fail
    refine (layout_numbers_has.calls x.d A1 c1 x.l x.tiles x.spare x.width x.r x.n A7 c7 x.ranks A8 c8 x.on x.homes x.cap a1 a2 b _ (Kd.C_alloc H1.out _) H2.out (Kd.C_alloc H3.out _) H4.out (Kd.C_alloc H5.out _) H6.out HH.out).mono ?_
    rintro e w2 ⟨rfl, hb2⟩
    have HB2 := Aside0.mk (below_step (below_alloc HB.out _) hb2)
    have HZ2 := Aside0.mk (blk_below HZ1.out hb2)
    have HX2 := Aside0.mk (blk_below (blk_new w1 (.cells #[.int .i64 x.d, .slice A1 x.l.length c1, .int .i64 x.tiles, .int .i64 x.spare, .int .i64 x.width, .int .i64 x.r, .int .i64 x.n, .slice A7 x.ranks.length c7, .slice A8 x.on.length c8, .int .i64 x.homes, .int .i64 x.cap] 67)) hb2)
    have HW2 := Aside0.mk (below_step (below_alloc (Below.refl _ _) _) hb2)
    clear hb2
    cases b with
    | false =>
      rw [if_neg (by simp)] at h
      replace h := Option.some.inj h
      simp only [Prod.mk.injEq] at h
      obtain ⟨rfl, rfl, rfl⟩ := h
      have hcz0 := (blk_cell HZ2.out 0).trans (rfl : _ = some _)
      have hfz0 := blk_frozen HZ2.out 0
      have hcz1 := (blk_cell HZ2.out 1).trans (rfl : _ = some _)
      have hfz1 := blk_frozen HZ2.out 1
      simp at hcz0 hcz1
      go_wp2
      exact bodyPost_ret (results_list (rs := [.cell 6 31, .tmp 7]) rfl (by simp) (.cell (w.heap.size + 1) 31 #[.int .i64 0, .int .i64 0] (0, 0) _ rfl (blk_put (cs := #[.int .i64 0, .int .i64 0]) (blk_put (cs := #[.int .i64 0, .int .i64 0]) HZ2.out 0 _ rfl) 1 _ rfl) Try.underlying31 rfl (by kernel_rfl) (.tmp .nil))) rfl ⟨rfl, below_set (below_set HB2.out (by omega)) (by omega)⟩
    | true =>
      rw [if_pos rfl] at h
      obtain ⟨⟨t1, t2⟩, ht, h⟩ := Option.bind_eq_some_iff.1 h
      replace h := Option.some.inj h
      simp only [Prod.mk.injEq] at h
      obtain ⟨rfl, rfl, rfl⟩ := h
      have HT := Aside0.mk ht
      unfold homeN at HT
      clear ht
      have hcx0 := (blk_cell HX2.out 0).trans (rfl : _ = some _)
      have hcx1 := (blk_cell HX2.out 1).trans (rfl : _ = some _)
      have hcx2 := (blk_cell HX2.out 2).trans (rfl : _ = some _)
      have hcx3 := (blk_cell HX2.out 3).trans (rfl : _ = some _)
      have hcx4 := (blk_cell HX2.out 4).trans (rfl : _ = some _)
      have hcx5 := (blk_cell HX2.out 5).trans (rfl : _ = some _)
      have hcx6 := (blk_cell HX2.out 6).trans (rfl : _ = some _)
      have hcx7 := (blk_cell HX2.out 7).trans (rfl : _ = some _)
      have hcx8 := (blk_cell HX2.out 8).trans (rfl : _ = some _)
      have hcx9 := (blk_cell HX2.out 9).trans (rfl : _ = some _)
      have hcx10 := (blk_cell HX2.out 10).trans (rfl : _ = some _)
      simp at hcx0 hcx1 hcx2 hcx3 hcx4 hcx5 hcx6 hcx7 hcx8 hcx9 hcx10
      go_wp2_with fail
      refine (layout_numbers_home.calls x.d A1 c1 x.l x.tiles x.spare x.width x.r x.n A7 c7 x.ranks A8 c8 x.on x.homes x.cap a1 a2 t1 t2 _ (Kd.C_below H1.out HW2.out) H2.out (Kd.C_below H3.out HW2.out) H4.out (Kd.C_below H5.out HW2.out) H6.out HT.out).mono ?_
      rintro e w3 ⟨rfl, hb3⟩
      have HB3 := Aside0.mk (below_step HB2.out hb3)
      have HZ3 := Aside0.mk (blk_below HZ2.out hb3)
      clear hb3 hcx0 hcx1 hcx2 hcx3 hcx4 hcx5 hcx6 hcx7 hcx8 hcx9 hcx10
      have hcz0 := (blk_cell HZ3.out 0).trans (rfl : _ = some _)
      have hfz0 := blk_frozen HZ3.out 0
      have hcz1 := (blk_cell HZ3.out 1).trans (rfl : _ = some _)
      have hfz1 := blk_frozen HZ3.out 1
      simp at hcz0 hcz1
      go_wp2
      exact bodyPost_ret (results_list (rs := [.cell 6 31, .tmp 7]) rfl (by simp) (.cell (w.heap.size + 1) 31 #[.int .i64 t1, .int .i64 t2] (0, 0) _ rfl (blk_put (cs := #[.int .i64 t1, .int .i64 0]) (blk_put (cs := #[.int .i64 0, .int .i64 0]) HZ3.out 0 _ rfl) 1 _ rfl) Try.underlying31 rfl (by kernel_rfl) (.tmp .nil))) rfl ⟨rfl, below_set (below_set HB3.out (by omega)) (by omega)⟩


def hasB (x : Nums) (g p : Int) : Bool := decide (0 ≤ g ∧ g < x.tiles * x.n ∧ 0 ≤ p ∧ p < x.width)
theorem has_is {x : Nums} (hb : Bds x) (g p : Int) : hasN x g p = some (hasB x g p) := by
  unfold hasN layout_numbers_has.f layout_numbers_groups.f hasB
  have h1 := hb.g
  rw [wrap_small (by omega) (by omega)]
  simp only [Option.bind_some]
  by_cases c1 : g ≥ 0
  · rw [if_pos c1]
    by_cases c2 : g < x.tiles * x.n
    · rw [if_pos c2]
      by_cases c3 : p ≥ 0
      · rw [if_pos c3]
        congr 1
        rw [decide_eq_decide]
        exact ⟨fun h => ⟨c1, c2, c3, h⟩, fun h => h.2.2.2⟩
      · rw [if_neg c3]
        congr 1
        exact (decide_eq_false (fun h => c3 h.2.2.1)).symm
    · rw [if_neg c2]
      congr 1
      exact (decide_eq_false (fun h => c2 h.2.1)).symm
  · rw [if_neg c1]
    congr 1
    exact (decide_eq_false (fun h => c1 h.1)).symm
theorem data_is {x : Nums} (hb : Bds x) : dataN x = some (x.width - 3) := by
  unfold dataN layout_numbers_data.f
  have h1 := hb.w
  rw [wrap_small (by omega) (by omega)]
theorem groups_is {x : Nums} (hb : Bds x) : groupsN x = some (x.tiles * x.n) := by
  unfold groupsN layout_numbers_groups.f
  have h1 := hb.g
  rw [wrap_small (by omega) (by omega)]

/-- layout_Number: function 36. -/
def layout_Number.f (a0_0 : Int) (l0_1 : List (List Int)) (a0_2 : Int) (a0_3 : Int) (a1 : Int) (a2 : Int) : Option (Int × Int) := some (if (measure a0_0 l0_1 a0_2 a0_3).2 = true then (if hasB (measure a0_0 l0_1 a0_2 a0_3).1 a1 a2 = true then (if a2 ≥ (measure a0_0 l0_1 a0_2 a0_3).1.width - 3 then (0, 9) else (a1 * ((measure a0_0 l0_1 a0_2 a0_3).1.width - 3) + a2, 0)) else (0, 2)) else (0, 1))
set_option maxHeartbeats 8000000 in
set_option maxRecDepth 100000 in
theorem layout_Number.calls (a0_0 : Int) (A0_1 : Option Addr) (c0_1 : Nat) (l0_1 : List (List Int)) (a0_2 : Int) (a0_3 : Int) (a1 : Int) (a2 : Int) (r1 : Int) (r2 : Int) (w : World) (hr0_1 : Kd.C (Kd.slice 3 (Kd.int .i64)) w A0_1 l0_1.length l0_1) (hc0_1 : l0_1.length ≤ c0_1) (h : layout_Number.f a0_0 l0_1 a0_2 a0_3 a1 a2 = some (r1, r2)) :
    Calls Try.prog 36 #[.agg #[.int .i64 a0_0, .slice A0_1 l0_1.length c0_1, .int .i64 a0_2, .int .i64 a0_3], .int .i64 a1, .int .i64 a2] w fun e w' => e = .returned (.tuple #[.int .i64 r1, .int .i64 r2]) ∧ Below w.heap.size w w' := by
  have hu26 := Try.underlying26
  have hu28 := Try.underlying28
  have hu31 := Try.underlying31
  have hu52 := Try.underlying52
  have hu67 := Try.underlying67
  have HR := Aside0.mk hr0_1
  have HC := Aside0.mk hc0_1
  obtain ⟨x, ok, hm⟩ : ∃ x ok, measure a0_0 l0_1 a0_2 a0_3 = (x, ok) := ⟨_, _, rfl⟩
  have HM := Aside0.mk hm
  clear hr0_1 hc0_1 hm
  go_enter Try.func36, Try.ntmps36
  go_wp2_with fail
  refine (measure_calls a0_0 A0_1 c0_1 l0_1 a0_2 a0_3 _ (by repeat (first | exact HR.out | apply Kd.C_alloc)) HC.out).mono ?_
  rintro e w1 ⟨v, rfl, hN, hb⟩
  rw [HM.out] at hN ⊢
  obtain ⟨A1, c1, A7, c7, A8, c8, rfl, h1, h2, h3, h4, h5, h6⟩ := hN
  have H1 := Aside0.mk h1
  have H2 := Aside0.mk h2
  have H3 := Aside0.mk h3
  have H4 := Aside0.mk h4
  have H5 := Aside0.mk h5
  have H6 := Aside0.mk h6
  have HB := Aside0.mk (below_then (by repeat (first | exact Below.refl _ _ | apply below_alloc)) (by repeat (first | exact Nat.le_refl _ | (rw [World.size_alloc]; apply Nat.le_succ_of_le))) hb : Below w.heap.size w w1)
  have HB0 := Aside0.mk hb
  clear h1 h2 h3 h4 h5 h6 hb
  unfold layout_Number.f at h
  rw [HM.out] at h
  replace h := Option.some.inj h
  cases ok with
  | false =>
    rw [if_neg (by simp)] at h
    simp only [Prod.mk.injEq] at h
    obtain ⟨rfl, rfl⟩ := h
    go_wp2
    go_ret2
    exact ⟨rfl, below_alloc HB.out _⟩
  | true =>
    rw [if_pos rfl] at h
    have hbd := bds_of (good_of HM.out)
    have HH := Aside0.mk (has_is hbd a1 a2)
    have HD := Aside0.mk (data_is hbd)
    unfold hasN at HH
    unfold dataN at HD
    have hw := hbd.w
    have hg4 := hbd.g
    obtain ⟨b, hbb⟩ : ∃ b, b = hasB x a1 a2 := ⟨_, rfl⟩
    rw [← hbb] at h HH
    have HBB := Aside0.mk hbb
    clear hbb hbd
    go_wp2_with fail
    refine (layout_numbers_has.calls x.d A1 c1 x.l x.tiles x.spare x.width x.r x.n A7 c7 x.ranks A8 c8 x.on x.homes x.cap a1 a2 b _ (Kd.C_alloc H1.out _) H2.out (Kd.C_alloc H3.out _) H4.out (Kd.C_alloc H5.out _) H6.out HH.out).mono ?_
    rintro e w2 ⟨rfl, hb2⟩
    have HB2 := Aside0.mk (below_step (below_alloc HB.out _) hb2)
    have HX2 := Aside0.mk (blk_below (blk_new w1 (.cells #[.int .i64 x.d, .slice A1 x.l.length c1, .int .i64 x.tiles, .int .i64 x.spare, .int .i64 x.width, .int .i64 x.r, .int .i64 x.n, .slice A7 x.ranks.length c7, .slice A8 x.on.length c8, .int .i64 x.homes, .int .i64 x.cap] 67)) hb2)
    have HW2 := Aside0.mk (below_step (below_alloc (Below.refl _ _) _) hb2)
    clear hb2
    cases b with
    | false =>
      rw [if_neg (by simp)] at h
      simp only [Prod.mk.injEq] at h
      obtain ⟨rfl, rfl⟩ := h
      go_wp2
      go_ret2
      exact ⟨rfl, HB2.out⟩
    | true =>
      rw [if_pos rfl] at h
      have hin := of_decide_eq_true (show decide (0 ≤ a1 ∧ a1 < x.tiles * x.n ∧ 0 ≤ a2 ∧ a2 < x.width) = true from HBB.out.symm)
      obtain ⟨i1, i2, i3, i4⟩ := hin
      obtain ⟨G, hG⟩ : ∃ G : Int, G = a1 * (x.width - 3) := ⟨_, rfl⟩
      have hGb : 0 ≤ G ∧ G ≤ 4096 * 13 := by rw [hG]; exact mul_bd i1 (by omega) (by omega) (by omega)
      have eG : wrap64 (a1 * (x.width - 3)) = G := by rw [← hG]; exact wrap_small (by omega) (by omega)
      rw [← hG] at h
      have HG := Aside0.mk hG
      clear hG
      have hcx0 := (blk_cell HX2.out 0).trans (rfl : _ = some _)
      have hcx1 := (blk_cell HX2.out 1).trans (rfl : _ = some _)
      have hcx2 := (blk_cell HX2.out 2).trans (rfl : _ = some _)
      have hcx3 := (blk_cell HX2.out 3).trans (rfl : _ = some _)
      have hcx4 := (blk_cell HX2.out 4).trans (rfl : _ = some _)
      have hcx5 := (blk_cell HX2.out 5).trans (rfl : _ = some _)
      have hcx6 := (blk_cell HX2.out 6).trans (rfl : _ = some _)
      have hcx7 := (blk_cell HX2.out 7).trans (rfl : _ = some _)
      have hcx8 := (blk_cell HX2.out 8).trans (rfl : _ = some _)
      have hcx9 := (blk_cell HX2.out 9).trans (rfl : _ = some _)
      have hcx10 := (blk_cell HX2.out 10).trans (rfl : _ = some _)
      simp at hcx0 hcx1 hcx2 hcx3 hcx4 hcx5 hcx6 hcx7 hcx8 hcx9 hcx10
      go_wp2_with fail
      refine (layout_numbers_data.calls x.d A1 c1 x.l x.tiles x.spare x.width x.r x.n A7 c7 x.ranks A8 c8 x.on x.homes x.cap (x.width - 3) _ (Kd.C_below H1.out HW2.out) H2.out (Kd.C_below H3.out HW2.out) H4.out (Kd.C_below H5.out HW2.out) H6.out HD.out).mono ?_
      rintro e w3 ⟨rfl, hb3⟩
      have HB3 := Aside0.mk (below_step HB2.out hb3)
      have HX3 := Aside0.mk (blk_below HX2.out hb3)
      have HW3 := Aside0.mk (below_step HW2.out hb3)
      clear hb3 hcx0 hcx1 hcx2 hcx3 hcx4 hcx5 hcx6 hcx7 hcx8 hcx9 hcx10
      by_cases hp : a2 ≥ x.width - 3
      · rw [if_pos hp] at h
        simp only [Prod.mk.injEq] at h
        obtain ⟨rfl, rfl⟩ := h
        have hp2 : decide (x.width - 3 ≤ a2) = true := decide_eq_true hp
        go_wp2
        go_ret2
        exact ⟨rfl, HB3.out⟩
      · rw [if_neg hp] at h
        simp only [Prod.mk.injEq] at h
        obtain ⟨rfl, rfl⟩ := h
        have hp2 : decide (x.width - 3 ≤ a2) = false := decide_eq_false hp
        have hcx0 := (blk_cell HX3.out 0).trans (rfl : _ = some _)
        have hcx1 := (blk_cell HX3.out 1).trans (rfl : _ = some _)
        have hcx2 := (blk_cell HX3.out 2).trans (rfl : _ = some _)
        have hcx3 := (blk_cell HX3.out 3).trans (rfl : _ = some _)
        have hcx4 := (blk_cell HX3.out 4).trans (rfl : _ = some _)
        have hcx5 := (blk_cell HX3.out 5).trans (rfl : _ = some _)
        have hcx6 := (blk_cell HX3.out 6).trans (rfl : _ = some _)
        have hcx7 := (blk_cell HX3.out 7).trans (rfl : _ = some _)
        have hcx8 := (blk_cell HX3.out 8).trans (rfl : _ = some _)
        have hcx9 := (blk_cell HX3.out 9).trans (rfl : _ = some _)
        have hcx10 := (blk_cell HX3.out 10).trans (rfl : _ = some _)
        simp at hcx0 hcx1 hcx2 hcx3 hcx4 hcx5 hcx6 hcx7 hcx8 hcx9 hcx10
        go_wp2_with fail
        refine (layout_numbers_data.calls x.d A1 c1 x.l x.tiles x.spare x.width x.r x.n A7 c7 x.ranks A8 c8 x.on x.homes x.cap (x.width - 3) _ (Kd.C_below H1.out HW3.out) H2.out (Kd.C_below H3.out HW3.out) H4.out (Kd.C_below H5.out HW3.out) H6.out HD.out).mono ?_
        rintro e w4 ⟨rfl, hb4⟩
        have HB4 := Aside0.mk (below_step HB3.out hb4)
        clear hb4 hcx0 hcx1 hcx2 hcx3 hcx4 hcx5 hcx6 hcx7 hcx8 hcx9 hcx10
        go_wp2
        go_ret2
        exact ⟨rfl, HB4.out⟩


/-- layout_Slot: function 35. -/
def layout_Slot.f (a0_0 : Int) (l0_1 : List (List Int)) (a0_2 : Int) (a0_3 : Int) (a1 : Int) : Option (Int × Int × Int) := some (if (measure a0_0 l0_1 a0_2 a0_3).2 = true then (if a1 < 0 ∨ a1 ≥ (measure a0_0 l0_1 a0_2 a0_3).1.tiles * (measure a0_0 l0_1 a0_2 a0_3).1.n * ((measure a0_0 l0_1 a0_2 a0_3).1.width - 3) then (0, 0, 2) else (a1 / ((measure a0_0 l0_1 a0_2 a0_3).1.width - 3), a1 % ((measure a0_0 l0_1 a0_2 a0_3).1.width - 3), 0)) else (0, 0, 1))
set_option maxHeartbeats 8000000 in
set_option maxRecDepth 100000 in
theorem layout_Slot.calls (a0_0 : Int) (A0_1 : Option Addr) (c0_1 : Nat) (l0_1 : List (List Int)) (a0_2 : Int) (a0_3 : Int) (a1 : Int) (r1 : Int) (r2 : Int) (r3 : Int) (w : World) (hr0_1 : Kd.C (Kd.slice 3 (Kd.int .i64)) w A0_1 l0_1.length l0_1) (hc0_1 : l0_1.length ≤ c0_1) (h : layout_Slot.f a0_0 l0_1 a0_2 a0_3 a1 = some (r1, r2, r3)) :
    Calls Try.prog 35 #[.agg #[.int .i64 a0_0, .slice A0_1 l0_1.length c0_1, .int .i64 a0_2, .int .i64 a0_3], .int .i64 a1] w fun e w' => e = .returned (.tuple #[.int .i64 r1, .int .i64 r2, .int .i64 r3]) ∧ Below w.heap.size w w' := by
  have hu26 := Try.underlying26
  have hu28 := Try.underlying28
  have hu31 := Try.underlying31
  have hu52 := Try.underlying52
  have hu67 := Try.underlying67
  have HR := Aside0.mk hr0_1
  have HC := Aside0.mk hc0_1
  obtain ⟨x, ok, hm⟩ : ∃ x ok, measure a0_0 l0_1 a0_2 a0_3 = (x, ok) := ⟨_, _, rfl⟩
  have HM := Aside0.mk hm
  clear hr0_1 hc0_1 hm
  go_enter Try.func35, Try.ntmps35
  go_wp2_with fail
  refine (measure_calls a0_0 A0_1 c0_1 l0_1 a0_2 a0_3 _ (by repeat (first | exact HR.out | apply Kd.C_alloc)) HC.out).mono ?_
  rintro e w1 ⟨v, rfl, hN, hb⟩
  rw [HM.out] at hN ⊢
  obtain ⟨A1, c1, A7, c7, A8, c8, rfl, h1, h2, h3, h4, h5, h6⟩ := hN
  have H1 := Aside0.mk h1
  have H2 := Aside0.mk h2
  have H3 := Aside0.mk h3
  have H4 := Aside0.mk h4
  have H5 := Aside0.mk h5
  have H6 := Aside0.mk h6
  have HB := Aside0.mk (below_then (by repeat (first | exact Below.refl _ _ | apply below_alloc)) (by repeat (first | exact Nat.le_refl _ | (rw [World.size_alloc]; apply Nat.le_succ_of_le))) hb : Below w.heap.size w w1)
  have HB0 := Aside0.mk hb
  clear h1 h2 h3 h4 h5 h6 hb
  unfold layout_Slot.f at h
  rw [HM.out] at h
  replace h := Option.some.inj h
  cases ok with
  | false =>
    rw [if_neg (by simp)] at h
    simp only [Prod.mk.injEq] at h
    obtain ⟨rfl, rfl, rfl⟩ := h
    go_wp2
    go_ret3
    exact ⟨rfl, below_alloc HB.out _⟩
  | true =>
    rw [if_pos rfl] at h
    have hbd := bds_of (good_of HM.out)
    have HGr := Aside0.mk (groups_is hbd)
    have HD := Aside0.mk (data_is hbd)
    unfold groupsN at HGr
    unfold dataN at HD
    have hw := hbd.w
    have hs := hbd.s
    have hg := hbd.g
    obtain ⟨D3, hD3⟩ : ∃ D3 : Int, D3 = x.width - 3 := ⟨_, rfl⟩
    obtain ⟨G, hG⟩ : ∃ G : Int, G = x.tiles * x.n := ⟨_, rfl⟩
    rw [← hG] at h HGr hs hg
    rw [← hD3] at h HD hs
    obtain ⟨S, hS⟩ : ∃ S : Int, S = G * D3 := ⟨_, rfl⟩
    have eS : wrap64 (G * D3) = S := by rw [← hS]; exact wrap_small (by omega) (by omega)
    have eS2 : IntKind.i64.wrap (G * D3) = S := by rw [← hS]; exact IntWalk.i64_in _ (by omega)
    rw [← hS] at h hs
    have hDb : 1 ≤ D3 ∧ D3 ≤ 13 := by omega
    have HD3 := Aside0.mk hD3
    have HG := Aside0.mk hG
    have HS := Aside0.mk hS
    clear hbd hD3 hG hS
    obtain ⟨w9, hw9⟩ : ∃ w9, w9 = w1.alloc (.cells #[.int .i64 x.d, .slice A1 x.l.length c1, .int .i64 x.tiles, .int .i64 x.spare, .int .i64 x.width, .int .i64 x.r, .int .i64 x.n, .slice A7 x.ranks.length c7, .slice A8 x.on.length c8, .int .i64 x.homes, .int .i64 x.cap] 67) := ⟨_, rfl⟩
    have HX9 : Aside0 (w9.heap[w1.heap.size]? = some (.cells #[.int .i64 x.d, .slice A1 x.l.length c1, .int .i64 x.tiles, .int .i64 x.spare, .int .i64 x.width, .int .i64 x.r, .int .i64 x.n, .slice A7 x.ranks.length c7, .slice A8 x.on.length c8, .int .i64 x.homes, .int .i64 x.cap] 67 (0, 0))) := ⟨by rw [hw9]; exact blk_new _ _⟩
    have HW9 : Aside0 (Below w1.heap.size w1 w9) := ⟨by rw [hw9]; exact below_alloc (Below.refl _ _) _⟩
    have HB9 : Aside0 (Below w.heap.size w w9) := ⟨by rw [hw9]; exact below_alloc HB.out _⟩
    go_wp2_with fail
    rw [← hw9]
    clear hw9
    by_cases q1 : a1 < 0
    · rw [if_pos (Or.inl q1)] at h
      simp only [Prod.mk.injEq] at h
      obtain ⟨rfl, rfl, rfl⟩ := h
      have cb1 : decide (a1 < 0) = true := decide_eq_true q1
      go_quiet (fail)
      go_wp2
      go_ret3
      exact ⟨rfl, pw_below_drewN HB9.out _⟩
    have cb1 : decide (a1 < 0) = false := decide_eq_false q1
    have hcx0 := (blk_cell HX9.out 0).trans (rfl : _ = some _)
    have hcx1 := (blk_cell HX9.out 1).trans (rfl : _ = some _)
    have hcx2 := (blk_cell HX9.out 2).trans (rfl : _ = some _)
    have hcx3 := (blk_cell HX9.out 3).trans (rfl : _ = some _)
    have hcx4 := (blk_cell HX9.out 4).trans (rfl : _ = some _)
    have hcx5 := (blk_cell HX9.out 5).trans (rfl : _ = some _)
    have hcx6 := (blk_cell HX9.out 6).trans (rfl : _ = some _)
    have hcx7 := (blk_cell HX9.out 7).trans (rfl : _ = some _)
    have hcx8 := (blk_cell HX9.out 8).trans (rfl : _ = some _)
    have hcx9 := (blk_cell HX9.out 9).trans (rfl : _ = some _)
    have hcx10 := (blk_cell HX9.out 10).trans (rfl : _ = some _)
    simp at hcx0 hcx1 hcx2 hcx3 hcx4 hcx5 hcx6 hcx7 hcx8 hcx9 hcx10
    have hbx0 : ∀ X : BW w9, X.w'.cell? ⟨w1.heap.size, 0, none⟩ = _ := fun X => pw_cell_below X.h hcx0
    have hbx1 : ∀ X : BW w9, X.w'.cell? ⟨w1.heap.size, 1, none⟩ = _ := fun X => pw_cell_below X.h hcx1
    have hbx2 : ∀ X : BW w9, X.w'.cell? ⟨w1.heap.size, 2, none⟩ = _ := fun X => pw_cell_below X.h hcx2
    have hbx3 : ∀ X : BW w9, X.w'.cell? ⟨w1.heap.size, 3, none⟩ = _ := fun X => pw_cell_below X.h hcx3
    have hbx4 : ∀ X : BW w9, X.w'.cell? ⟨w1.heap.size, 4, none⟩ = _ := fun X => pw_cell_below X.h hcx4
    have hbx5 : ∀ X : BW w9, X.w'.cell? ⟨w1.heap.size, 5, none⟩ = _ := fun X => pw_cell_below X.h hcx5
    have hbx6 : ∀ X : BW w9, X.w'.cell? ⟨w1.heap.size, 6, none⟩ = _ := fun X => pw_cell_below X.h hcx6
    have hbx7 : ∀ X : BW w9, X.w'.cell? ⟨w1.heap.size, 7, none⟩ = _ := fun X => pw_cell_below X.h hcx7
    have hbx8 : ∀ X : BW w9, X.w'.cell? ⟨w1.heap.size, 8, none⟩ = _ := fun X => pw_cell_below X.h hcx8
    have hbx9 : ∀ X : BW w9, X.w'.cell? ⟨w1.heap.size, 9, none⟩ = _ := fun X => pw_cell_below X.h hcx9
    have hbx10 : ∀ X : BW w9, X.w'.cell? ⟨w1.heap.size, 10, none⟩ = _ := fun X => pw_cell_below X.h hcx10
    clear hcx0 hcx1 hcx2 hcx3 hcx4 hcx5 hcx6 hcx7 hcx8 hcx9 hcx10
    refine region_quiet_bw (by kernel_rfl) (by kernel_rfl) ?_
    repeat (first | go_big_quiet_step ((first | (go_at_call 45; rename_i X; refine (layout_numbers_groups.calls x.d A1 c1 x.l x.tiles x.spare x.width x.r x.n A7 c7 x.ranks A8 c8 x.on x.homes x.cap G _ (Kd.C_below (Kd.C_below H1.out HW9.out) X.h) H2.out (Kd.C_below (Kd.C_below H3.out HW9.out) X.h) H4.out (Kd.C_below (Kd.C_below H5.out HW9.out) X.h) H6.out HGr.out).mono ?_; rintro e w5 ⟨rfl, hb5⟩; exact ⟨rfl, ⟨⟨w5, below_step X.h hb5⟩, rfl⟩⟩) | (go_at_call 46; rename_i X; refine (layout_numbers_data.calls x.d A1 c1 x.l x.tiles x.spare x.width x.r x.n A7 c7 x.ranks A8 c8 x.on x.homes x.cap D3 _ (Kd.C_below (Kd.C_below H1.out HW9.out) X.h) H2.out (Kd.C_below (Kd.C_below H3.out HW9.out) X.h) H4.out (Kd.C_below (Kd.C_below H5.out HW9.out) X.h) H6.out HD.out).mono ?_; rintro e w5 ⟨rfl, hb5⟩; exact ⟨rfl, ⟨⟨w5, below_step X.h hb5⟩, rfl⟩⟩))) | quiet_step ((first | (go_at_call 45; rename_i X; refine (layout_numbers_groups.calls x.d A1 c1 x.l x.tiles x.spare x.width x.r x.n A7 c7 x.ranks A8 c8 x.on x.homes x.cap G _ (Kd.C_below (Kd.C_below H1.out HW9.out) X.h) H2.out (Kd.C_below (Kd.C_below H3.out HW9.out) X.h) H4.out (Kd.C_below (Kd.C_below H5.out HW9.out) X.h) H6.out HGr.out).mono ?_; rintro e w5 ⟨rfl, hb5⟩; exact ⟨rfl, ⟨⟨w5, below_step X.h hb5⟩, rfl⟩⟩) | (go_at_call 46; rename_i X; refine (layout_numbers_data.calls x.d A1 c1 x.l x.tiles x.spare x.width x.r x.n A7 c7 x.ranks A8 c8 x.on x.homes x.cap D3 _ (Kd.C_below (Kd.C_below H1.out HW9.out) X.h) H2.out (Kd.C_below (Kd.C_below H3.out HW9.out) X.h) H4.out (Kd.C_below (Kd.C_below H5.out HW9.out) X.h) H6.out HD.out).mono ?_; rintro e w5 ⟨rfl, hb5⟩; exact ⟨rfl, ⟨⟨w5, below_step X.h hb5⟩, rfl⟩⟩))))
    refine wpQuiet_nil ?_
    rintro _ ⟨X, rfl⟩
    obtain ⟨w8, hw8⟩ : ∃ w8, w8 = X.w' := ⟨_, rfl⟩
    have HX8 : Aside0 (w8.heap[w1.heap.size]? = some (.cells #[.int .i64 x.d, .slice A1 x.l.length c1, .int .i64 x.tiles, .int .i64 x.spare, .int .i64 x.width, .int .i64 x.r, .int .i64 x.n, .slice A7 x.ranks.length c7, .slice A8 x.on.length c8, .int .i64 x.homes, .int .i64 x.cap] 67 (0, 0))) := ⟨by rw [hw8]; exact blk_below HX9.out X.h⟩
    have HW8 : Aside0 (Below w1.heap.size w1 w8) := ⟨by rw [hw8]; exact below_step HW9.out X.h⟩
    have HB8 : Aside0 (Below w.heap.size w w8) := ⟨by rw [hw8]; exact below_step HB9.out X.h⟩
    rw [← hw8]
    clear hw8 X hbx0 hbx1 hbx2 hbx3 hbx4 hbx5 hbx6 hbx7 hbx8 hbx9 hbx10 HX9 HW9 HB9 eS eS2
    by_cases q2 : a1 ≥ S
    · rw [if_pos (Or.inr q2)] at h
      simp only [Prod.mk.injEq] at h
      obtain ⟨rfl, rfl, rfl⟩ := h
      have cb2 : decide (S ≤ a1) = true := decide_eq_true q2
      go_wp2
      go_ret3
      exact ⟨rfl, HB8.out⟩
    rw [if_neg (fun hk => hk.elim q1 q2)] at h
    simp only [Prod.mk.injEq] at h
    obtain ⟨h1, h2, rfl⟩ := h
    have cb2 : decide (S ≤ a1) = false := decide_eq_false q2
    go_wp2_with fail
    have hcx0 := (blk_cell HX8.out 0).trans (rfl : _ = some _)
    have hcx1 := (blk_cell HX8.out 1).trans (rfl : _ = some _)
    have hcx2 := (blk_cell HX8.out 2).trans (rfl : _ = some _)
    have hcx3 := (blk_cell HX8.out 3).trans (rfl : _ = some _)
    have hcx4 := (blk_cell HX8.out 4).trans (rfl : _ = some _)
    have hcx5 := (blk_cell HX8.out 5).trans (rfl : _ = some _)
    have hcx6 := (blk_cell HX8.out 6).trans (rfl : _ = some _)
    have hcx7 := (blk_cell HX8.out 7).trans (rfl : _ = some _)
    have hcx8 := (blk_cell HX8.out 8).trans (rfl : _ = some _)
    have hcx9 := (blk_cell HX8.out 9).trans (rfl : _ = some _)
    have hcx10 := (blk_cell HX8.out 10).trans (rfl : _ = some _)
    simp at hcx0 hcx1 hcx2 hcx3 hcx4 hcx5 hcx6 hcx7 hcx8 hcx9 hcx10
    have hbx0 : ∀ X : BW w8, X.w'.cell? ⟨w1.heap.size, 0, none⟩ = _ := fun X => pw_cell_below X.h hcx0
    have hbx1 : ∀ X : BW w8, X.w'.cell? ⟨w1.heap.size, 1, none⟩ = _ := fun X => pw_cell_below X.h hcx1
    have hbx2 : ∀ X : BW w8, X.w'.cell? ⟨w1.heap.size, 2, none⟩ = _ := fun X => pw_cell_below X.h hcx2
    have hbx3 : ∀ X : BW w8, X.w'.cell? ⟨w1.heap.size, 3, none⟩ = _ := fun X => pw_cell_below X.h hcx3
    have hbx4 : ∀ X : BW w8, X.w'.cell? ⟨w1.heap.size, 4, none⟩ = _ := fun X => pw_cell_below X.h hcx4
    have hbx5 : ∀ X : BW w8, X.w'.cell? ⟨w1.heap.size, 5, none⟩ = _ := fun X => pw_cell_below X.h hcx5
    have hbx6 : ∀ X : BW w8, X.w'.cell? ⟨w1.heap.size, 6, none⟩ = _ := fun X => pw_cell_below X.h hcx6
    have hbx7 : ∀ X : BW w8, X.w'.cell? ⟨w1.heap.size, 7, none⟩ = _ := fun X => pw_cell_below X.h hcx7
    have hbx8 : ∀ X : BW w8, X.w'.cell? ⟨w1.heap.size, 8, none⟩ = _ := fun X => pw_cell_below X.h hcx8
    have hbx9 : ∀ X : BW w8, X.w'.cell? ⟨w1.heap.size, 9, none⟩ = _ := fun X => pw_cell_below X.h hcx9
    have hbx10 : ∀ X : BW w8, X.w'.cell? ⟨w1.heap.size, 10, none⟩ = _ := fun X => pw_cell_below X.h hcx10
    clear hcx0 hcx1 hcx2 hcx3 hcx4 hcx5 hcx6 hcx7 hcx8 hcx9 hcx10
    refine region_quiet_bw (by kernel_rfl) (by kernel_rfl) ?_
    repeat (first | go_big_quiet_step ((first | (go_at_call 46; rename_i X; refine (layout_numbers_data.calls x.d A1 c1 x.l x.tiles x.spare x.width x.r x.n A7 c7 x.ranks A8 c8 x.on x.homes x.cap D3 _ (Kd.C_below (Kd.C_below H1.out HW8.out) X.h) H2.out (Kd.C_below (Kd.C_below H3.out HW8.out) X.h) H4.out (Kd.C_below (Kd.C_below H5.out HW8.out) X.h) H6.out HD.out).mono ?_; rintro e w5 ⟨rfl, hb5⟩; exact ⟨rfl, ⟨⟨w5, below_step X.h hb5⟩, rfl⟩⟩))) | quiet_step ((first | (go_at_call 46; rename_i X; refine (layout_numbers_data.calls x.d A1 c1 x.l x.tiles x.spare x.width x.r x.n A7 c7 x.ranks A8 c8 x.on x.homes x.cap D3 _ (Kd.C_below (Kd.C_below H1.out HW8.out) X.h) H2.out (Kd.C_below (Kd.C_below H3.out HW8.out) X.h) H4.out (Kd.C_below (Kd.C_below H5.out HW8.out) X.h) H6.out HD.out).mono ?_; rintro e w5 ⟨rfl, hb5⟩; exact ⟨rfl, ⟨⟨w5, below_step X.h hb5⟩, rfl⟩⟩))))
    refine wpQuiet_nil ?_
    rintro _ ⟨X, rfl⟩
    go_wp2
    go_ret3
    exact ⟨by rw [← h1, ← h2]; rfl, below_step HB8.out X.h⟩


theorem at_open {x : Nums} {d b : Int} {r : Int × Int} (h : atN x d b = some r) : layout_numbers_at.f 100 x.d x.l x.tiles x.spare x.width x.r x.n x.ranks x.on x.homes x.cap d b = some (r.1, r.2) := h

/-- layout_At: function 18. -/
def layout_At.f (a0_0 : Int) (l0_1 : List (List Int)) (a0_2 : Int) (a0_3 : Int) (a1_0 : Int) (a1_1 : Int) : Option (Int × Int × Int) := if (measure a0_0 l0_1 a0_2 a0_3).2 = true then (if a1_0 < 0 ∨ a1_0 ≥ a0_0 ∨ a1_1 < 0 ∨ a1_1 ≥ (measure a0_0 l0_1 a0_2 a0_3).1.cap then some (0, 0, 2) else if a1_1 ≥ (measure a0_0 l0_1 a0_2 a0_3).1.homes then some (0, 0, 9) else (atN (measure a0_0 l0_1 a0_2 a0_3).1 a1_0 a1_1).bind fun t => some (t.1, t.2, 0)) else some (0, 0, 1)
set_option maxHeartbeats 8000000 in
set_option maxRecDepth 100000 in
theorem layout_At.calls (a0_0 : Int) (A0_1 : Option Addr) (c0_1 : Nat) (l0_1 : List (List Int)) (a0_2 : Int) (a0_3 : Int) (a1_0 : Int) (a1_1 : Int) (r1 : Int) (r2 : Int) (r3 : Int) (w : World) (hr0_1 : Kd.C (Kd.slice 3 (Kd.int .i64)) w A0_1 l0_1.length l0_1) (hc0_1 : l0_1.length ≤ c0_1) (h : layout_At.f a0_0 l0_1 a0_2 a0_3 a1_0 a1_1 = some (r1, r2, r3)) :
    Calls Try.prog 18 #[.agg #[.int .i64 a0_0, .slice A0_1 l0_1.length c0_1, .int .i64 a0_2, .int .i64 a0_3], .agg #[.int .i64 a1_0, .int .i64 a1_1]] w fun e w' => e = .returned (.tuple #[.int .i64 r1, .int .i64 r2, .int .i64 r3]) ∧ Below w.heap.size w w' := by
  have hu26 := Try.underlying26
  have hu28 := Try.underlying28
  have hu31 := Try.underlying31
  have hu52 := Try.underlying52
  have hu67 := Try.underlying67
  have HR := Aside0.mk hr0_1
  have HC := Aside0.mk hc0_1
  obtain ⟨x, ok, hm⟩ : ∃ x ok, measure a0_0 l0_1 a0_2 a0_3 = (x, ok) := ⟨_, _, rfl⟩
  have HM := Aside0.mk hm
  clear hr0_1 hc0_1 hm
  go_enter Try.func18, Try.ntmps18
  go_wp2_with fail
  refine (measure_calls a0_0 A0_1 c0_1 l0_1 a0_2 a0_3 _ (by repeat (first | exact HR.out | apply Kd.C_alloc)) HC.out).mono ?_
  rintro e w1 ⟨v, rfl, hN, hb⟩
  rw [HM.out] at hN ⊢
  obtain ⟨A1, c1, A7, c7, A8, c8, rfl, h1, h2, h3, h4, h5, h6⟩ := hN
  have H1 := Aside0.mk h1
  have H2 := Aside0.mk h2
  have H3 := Aside0.mk h3
  have H4 := Aside0.mk h4
  have H5 := Aside0.mk h5
  have H6 := Aside0.mk h6
  have HB := Aside0.mk (below_then (by repeat (first | exact Below.refl _ _ | apply below_alloc)) (by repeat (first | exact Nat.le_refl _ | (rw [World.size_alloc]; apply Nat.le_succ_of_le))) hb : Below w.heap.size w w1)
  have HB0 := Aside0.mk hb
  clear h1 h2 h3 h4 h5 h6 hb
  unfold layout_At.f at h
  rw [HM.out] at h
  have HBL := Aside0.mk (blk_below (blk_alloc (blk_new w (.cells #[.int .i64 a0_0, .slice A0_1 l0_1.length c0_1, .int .i64 a0_2, .int .i64 a0_3] 28)) (.cells #[.int .i64 a1_0, .int .i64 a1_1] 31)) HB0.out)
  have HBP := Aside0.mk (blk_below (blk_new (w.alloc _) (.cells #[.int .i64 a1_0, .int .i64 a1_1] 31)) HB0.out)
  rw [World.size_alloc] at HBP
  have hz1 : w.heap.size + 1 < w1.heap.size := blk_lt HBP.out
  have hz2 : w.heap.size < w1.heap.size := by omega
  cases ok with
  | false =>
    rw [if_neg (by simp)] at h
    replace h := Option.some.inj h
    simp only [Prod.mk.injEq] at h
    obtain ⟨rfl, rfl, rfl⟩ := h
    go_wp2
    go_ret3
    exact ⟨rfl, below_alloc HB.out _⟩
  | true =>
    rw [if_pos rfl] at h
    have hbd := bds_of (good_of HM.out)
    have hh := hbd.h
    have hc := hbd.c
    clear hbd
    have hl0 := (blk_cell HBL.out 0).trans (rfl : _ = some _)
    have hp0 := (blk_cell HBP.out 0).trans (rfl : _ = some _)
    have hp1 := (blk_cell HBP.out 1).trans (rfl : _ = some _)
    simp at hl0 hp0 hp1
    by_cases q0 : a1_0 < 0
    · rw [if_pos (Or.inl q0)] at h
      simp only [Prod.mk.injEq, Option.some.injEq] at h
      obtain ⟨rfl, rfl, rfl⟩ := h
      have qb0 : decide (a1_0 < 0) = true := decide_eq_true q0
      go_wp2
      go_ret3
      exact ⟨rfl, below_alloc HB.out _⟩
    have qb0 : decide (a1_0 < 0) = false := decide_eq_false q0
    by_cases q1 : a1_0 ≥ a0_0
    · rw [if_pos (Or.inr (Or.inl q1))] at h
      simp only [Prod.mk.injEq, Option.some.injEq] at h
      obtain ⟨rfl, rfl, rfl⟩ := h
      have qb1 : decide (a0_0 ≤ a1_0) = true := decide_eq_true q1
      go_wp2
      go_ret3
      exact ⟨rfl, below_alloc HB.out _⟩
    have qb1 : decide (a0_0 ≤ a1_0) = false := decide_eq_false q1
    by_cases q2 : a1_1 < 0
    · rw [if_pos (Or.inr (Or.inr (Or.inl q2)))] at h
      simp only [Prod.mk.injEq, Option.some.injEq] at h
      obtain ⟨rfl, rfl, rfl⟩ := h
      have qb2 : decide (a1_1 < 0) = true := decide_eq_true q2
      go_wp2
      go_ret3
      exact ⟨rfl, below_alloc HB.out _⟩
    have qb2 : decide (a1_1 < 0) = false := decide_eq_false q2
    by_cases q3 : a1_1 ≥ x.cap
    · rw [if_pos (Or.inr (Or.inr (Or.inr q3)))] at h
      simp only [Prod.mk.injEq, Option.some.injEq] at h
      obtain ⟨rfl, rfl, rfl⟩ := h
      have qb3 : decide (x.cap ≤ a1_1) = true := decide_eq_true q3
      go_wp2
      go_ret3
      exact ⟨rfl, below_alloc HB.out _⟩
    have qb3 : decide (x.cap ≤ a1_1) = false := decide_eq_false q3
    rw [if_neg (fun hk => hk.elim q0 (fun hk => hk.elim q1 (fun hk => hk.elim q2 q3)))] at h
    by_cases q4 : a1_1 ≥ x.homes
    · rw [if_pos (q4)] at h
      simp only [Prod.mk.injEq, Option.some.injEq] at h
      obtain ⟨rfl, rfl, rfl⟩ := h
      have qb4 : decide (x.homes ≤ a1_1) = true := decide_eq_true q4
      go_wp2
      go_ret3
      exact ⟨rfl, below_alloc HB.out _⟩
    have qb4 : decide (x.homes ≤ a1_1) = false := decide_eq_false q4
    rw [if_neg q4] at h
    obtain ⟨⟨t1, t2⟩, ht, h⟩ := Option.bind_eq_some_iff.1 h
    simp only [Prod.mk.injEq, Option.some.injEq] at h
    obtain ⟨rfl, rfl, rfl⟩ := h
    have HT := Aside0.mk (at_open ht)
    clear ht
    go_wp2_with fail
    refine (layout_numbers_at.calls 100 x.d A1 c1 x.l x.tiles x.spare x.width x.r x.n A7 c7 x.ranks A8 c8 x.on x.homes x.cap a1_0 a1_1 t1 t2 _ (Kd.C_alloc H1.out _) H2.out (Kd.C_alloc H3.out _) H4.out (Kd.C_alloc H5.out _) H6.out HT.out).mono ?_
    rintro e w2 ⟨rfl, hb2⟩
    have HB2 := Aside0.mk (below_step (below_alloc HB.out _) hb2)
    clear hb2
    go_wp2_with fail
    go_quiet (fail)
    go_wp2
    go_ret3
    exact ⟨rfl, pw_below_drewN (below_alloc HB2.out _) _⟩


def diskL (x : Nums) (d : Int) : Nat → Option (List S52)
  | 0 => some []
  | n + 1 => (diskL x d n).bind fun l => (atN x d (n : Int)).bind fun m => some (l ++ [⟨m.1, m.2⟩])
theorem diskL_some {x : Nums} {d : Int} : ∀ {n : Nat} {l : List S52}, diskL x d n = some l → ∀ i, i < n → ∃ li m, diskL x d i = some li ∧ atN x d (i : Int) = some m ∧ diskL x d (i + 1) = some (li ++ [⟨m.1, m.2⟩])
  | 0, _, _, i, hi => absurd hi (Nat.not_lt_zero _)
  | n + 1, l, h, i, hi => by
    have h0 := h
    simp only [diskL] at h
    obtain ⟨l', hl', h2⟩ := Option.bind_eq_some_iff.1 h
    obtain ⟨m, hm, h3⟩ := Option.bind_eq_some_iff.1 h2
    by_cases e : i = n
    · subst e
      exact ⟨l', m, hl', hm, by rw [h0, ← Option.some.inj h3]⟩
    · exact diskL_some hl' i (by omega)
theorem diskL_len {x : Nums} {d : Int} : ∀ {n : Nat} {l : List S52}, diskL x d n = some l → l.length = n
  | 0, l, h => by simp only [diskL] at h; rw [← Option.some.inj h]; rfl
  | n + 1, l, h => by
    simp only [diskL] at h
    obtain ⟨l', hl', h2⟩ := Option.bind_eq_some_iff.1 h
    obtain ⟨m, hm, h3⟩ := Option.bind_eq_some_iff.1 h2
    rw [← Option.some.inj h3, List.length_append, diskL_len hl']
    rfl
/-- layout_OnDisk: function 33. -/
def layout_OnDisk.f (a0_0 : Int) (l0_1 : List (List Int)) (a0_2 : Int) (a0_3 : Int) (a1 : Int) : Option ((List S52) × Int) := if (measure a0_0 l0_1 a0_2 a0_3).2 = true then (if a1 < 0 ∨ a1 ≥ a0_0 then some ([], 2) else (diskL (measure a0_0 l0_1 a0_2 a0_3).1 a1 (measure a0_0 l0_1 a0_2 a0_3).1.homes.toNat).bind fun l => some (l, 0)) else some ([], 1)
set_option maxHeartbeats 8000000 in
set_option maxRecDepth 100000 in
theorem layout_OnDisk.calls (a0_0 : Int) (A0_1 : Option Addr) (c0_1 : Nat) (l0_1 : List (List Int)) (a0_2 : Int) (a0_3 : Int) (a1 : Int) (r1 : List S52) (r2 : Int) (w : World) (hr0_1 : Kd.C (Kd.slice 3 (Kd.int .i64)) w A0_1 l0_1.length l0_1) (hc0_1 : l0_1.length ≤ c0_1) (h : layout_OnDisk.f a0_0 l0_1 a0_2 a0_3 a1 = some (r1, r2)) :
    Calls Try.prog 33 #[.agg #[.int .i64 a0_0, .slice A0_1 l0_1.length c0_1, .int .i64 a0_2, .int .i64 a0_3], .int .i64 a1] w fun e w' => ∃ v0_ : Value, e = .returned (.tuple #[v0_, .int .i64 r2]) ∧ Kd.R k52 52 w' w.heap.size (fun _ => True) v0_ r1 ∧ Below w.heap.size w w' := by
  have hu26 := Try.underlying26
  have hu28 := Try.underlying28
  have hu31 := Try.underlying31
  have hu52 := Try.underlying52
  have hu67 := Try.underlying67
  have HR := Aside0.mk hr0_1
  have HC := Aside0.mk hc0_1
  obtain ⟨x, ok, hm⟩ : ∃ x ok, measure a0_0 l0_1 a0_2 a0_3 = (x, ok) := ⟨_, _, rfl⟩
  have HM := Aside0.mk hm
  clear hr0_1 hc0_1 hm
  go_enter Try.func33, Try.ntmps33
  go_wp2_with fail
  refine (measure_calls a0_0 A0_1 c0_1 l0_1 a0_2 a0_3 _ (by repeat (first | exact HR.out | apply Kd.C_alloc)) HC.out).mono ?_
  rintro e w1 ⟨v, rfl, hN, hb⟩
  rw [HM.out] at hN ⊢
  obtain ⟨A1, c1, A7, c7, A8, c8, rfl, h1, h2, h3, h4, h5, h6⟩ := hN
  have H1 := Aside0.mk h1
  have H2 := Aside0.mk h2
  have H3 := Aside0.mk h3
  have H4 := Aside0.mk h4
  have H5 := Aside0.mk h5
  have H6 := Aside0.mk h6
  have HB := Aside0.mk (below_then (by repeat (first | exact Below.refl _ _ | apply below_alloc)) (by repeat (first | exact Nat.le_refl _ | (rw [World.size_alloc]; apply Nat.le_succ_of_le))) hb : Below w.heap.size w w1)
  have HB0 := Aside0.mk hb
  clear h1 h2 h3 h4 h5 h6 hb
  unfold layout_OnDisk.f at h
  rw [HM.out] at h
  have HBL := Aside0.mk (blk_below (blk_new w (.cells #[.int .i64 a0_0, .slice A0_1 l0_1.length c0_1, .int .i64 a0_2, .int .i64 a0_3] 28)) HB0.out)
  have hz2 : w.heap.size < w1.heap.size := blk_lt HBL.out
  cases ok with
  | false =>
    rw [if_neg (by simp)] at h
    replace h := Option.some.inj h
    simp only [Prod.mk.injEq] at h
    obtain ⟨rfl, rfl⟩ := h
    go_wp2
    go_ret2
    exact ⟨_, rfl, Kd.R_nil _ _ _ _ _, below_alloc HB.out _⟩
  | true =>
    rw [if_pos rfl] at h
    have hbd := bds_of (good_of HM.out)
    have hh := hbd.h
    clear hbd
    have hl0 := (blk_cell HBL.out 0).trans (rfl : _ = some _)
    simp at hl0
    by_cases q0 : a1 < 0
    · rw [if_pos (Or.inl q0)] at h
      simp only [Prod.mk.injEq, Option.some.injEq] at h
      obtain ⟨rfl, rfl⟩ := h
      have qb0 : decide (a1 < 0) = true := decide_eq_true q0
      go_wp2
      go_ret2
      exact ⟨_, rfl, Kd.R_nil _ _ _ _ _, below_alloc HB.out _⟩
    have qb0 : decide (a1 < 0) = false := decide_eq_false q0
    by_cases q1 : a1 ≥ a0_0
    · rw [if_pos (Or.inr q1)] at h
      simp only [Prod.mk.injEq, Option.some.injEq] at h
      obtain ⟨rfl, rfl⟩ := h
      have qb1 : decide (a0_0 ≤ a1) = true := decide_eq_true q1
      go_wp2
      go_ret2
      exact ⟨_, rfl, Kd.R_nil _ _ _ _ _, below_alloc HB.out _⟩
    have qb1 : decide (a0_0 ≤ a1) = false := decide_eq_false q1
    rw [if_neg (fun hk => hk.elim q0 q1)] at h
    obtain ⟨lst, hls, h⟩ := Option.bind_eq_some_iff.1 h
    simp only [Prod.mk.injEq, Option.some.injEq] at h
    obtain ⟨rfl, rfl⟩ := h
    obtain ⟨N, hN⟩ : ∃ N : Nat, x.homes = (N : Int) := ⟨x.homes.toNat, by omega⟩
    rw [hN, Int.toNat_natCast] at hls
    have hNb : N ≤ 65536 := by omega
    have HLS := Aside0.mk hls
    have HNN := Aside0.mk hN
    clear hls hN
    go_wp2_with fail
    go_loopw [8, 30] (fun o i wr => ∃ b : Nat, b ≤ N ∧ i = .int .i64 b ∧ ∃ lb, Aside0 (diskL x a1 b = some lb) ∧ Aside0 (Kd.R k52 52 wr w1.heap.size (fun _ => True) o lb) ∧ Aside0 (wr.heap[w1.heap.size]? = some (.cells #[.int .i64 x.d, .slice A1 x.l.length c1, .int .i64 x.tiles, .int .i64 x.spare, .int .i64 x.width, .int .i64 x.r, .int .i64 x.n, .slice A7 x.ranks.length c7, .slice A8 x.on.length c8, .int .i64 x.homes, .int .i64 x.cap] 67 (0, 0))) ∧ Aside0 (Below w1.heap.size w1 wr)) (fun _ i _ => N - (intOf i).toNat)
    case atStart => exact ⟨0, Nat.zero_le _, rfl, [], ⟨rfl⟩, ⟨Kd.R_nil _ _ _ _ _⟩, ⟨blk_new _ _⟩, ⟨below_alloc (Below.refl _ _) _⟩⟩
    case round =>
      obtain ⟨b, hbN, rfl, lb, HLB, HRO, HXB, HWB⟩ := hrel
      have hlen := diskL_len HLB.out
      by_cases hlt : b < N
      · obtain ⟨li, m, hd1, hd2, hd3⟩ := diskL_some HLS.out b hlt
        rw [HLB.out] at hd1
        injection hd1 with hd1
        subst hd1
        have HM2 := Aside0.mk (at_open hd2)
        have HD3 := Aside0.mk hd3
        clear hd2 hd3
        have hc1 : decide ((b : Int) < x.homes) = true := decide_eq_true (by rw [HNN.out]; omega)
        have hcx0 := (blk_cell HXB.out 0).trans (rfl : _ = some _)
        have hcx1 := (blk_cell HXB.out 1).trans (rfl : _ = some _)
        have hcx2 := (blk_cell HXB.out 2).trans (rfl : _ = some _)
        have hcx3 := (blk_cell HXB.out 3).trans (rfl : _ = some _)
        have hcx4 := (blk_cell HXB.out 4).trans (rfl : _ = some _)
        have hcx5 := (blk_cell HXB.out 5).trans (rfl : _ = some _)
        have hcx6 := (blk_cell HXB.out 6).trans (rfl : _ = some _)
        have hcx7 := (blk_cell HXB.out 7).trans (rfl : _ = some _)
        have hcx8 := (blk_cell HXB.out 8).trans (rfl : _ = some _)
        have hcx9 := (blk_cell HXB.out 9).trans (rfl : _ = some _)
        have hcx10 := (blk_cell HXB.out 10).trans (rfl : _ = some _)
        simp at hcx0 hcx1 hcx2 hcx3 hcx4 hcx5 hcx6 hcx7 hcx8 hcx9 hcx10
        go_wp2_with fail
        refine (layout_numbers_at.calls 100 x.d A1 c1 x.l x.tiles x.spare x.width x.r x.n A7 c7 x.ranks A8 c8 x.on x.homes x.cap a1 b m.1 m.2 _ (Kd.C_below H1.out HWB.out) H2.out (Kd.C_below H3.out HWB.out) H4.out (Kd.C_below H5.out HWB.out) H6.out HM2.out).mono ?_
        rintro e w2 ⟨rfl, hb2⟩
        have HRO2 := Aside0.mk (Kd.R_below HRO.out hb2)
        have HXB2 := Aside0.mk (blk_below HXB.out hb2)
        have HWB2 := Aside0.mk (below_step HWB.out hb2)
        clear hb2 hcx0 hcx1 hcx2 hcx3 hcx4 hcx5 hcx6 hcx7 hcx8 hcx9 hcx10
        have HLEN := Aside0.mk hlen
        clear hlen
        go_wp2_with (at_builtin; refine Kd.R_append k52 (w0 := w1) w1.heap.size rfl (.tmp 33) (.tmp 38) 48 52 (.agg #[.int .i64 0, .int .i64 0]) 16 rfl Try.underlying48 info52 rfl (by decide) (by omega) u8 lb (⟨m.1, m.2⟩ : S52) [.int .i64 m.1, .int .i64 m.2] (fun _ => True) (fun _ => False) rfl rfl (k52_mkM _ _ _ (⟨m.1, m.2⟩ : S52)) (fun _ h => h.elim) (fun _ _ => trivial) HRO2.out HWB2.out HWB2.out.size (by have := HLEN.out; omega) ?_; intro v1 w3 hr3 hb3 hg3 hat3; have HR3 := Aside0.mk hr3; have HB3 := Aside0.mk hb3; have HX3 := Aside0.mk (blk_grown HXB2.out hg3 (Kd.R_ne HRO2.out HXB2.out (by decide))); clear hr3 hb3 hg3 hat3)
        go_roundw
        case rel => exact ⟨b + 1, by omega, by go_num, _, HD3, HR3, HX3, HB3⟩
        case measure => simp [intOf]; omega
      · have hc1 : decide ((b : Int) < x.homes) = false := decide_eq_false (by rw [HNN.out]; omega)
        have e : lb = lst := by
          have h1 := HLB.out
          rw [show b = N by omega, HLS.out] at h1
          exact (Option.some.inj h1).symm
        subst e
        go_wp2
        go_ret2
        exact ⟨_, rfl, Kd.R_lower HRO.out HB.out.size, below_then HB.out HB.out.size HWB.out⟩

end Go.Proofs.Ytebnladkogkpfaa.Q
