import Derived.Test.YtebnladkogkpfaaG39B
import Derived.Deep.RegionLaw
/-! The inner loop's round of measure, over a frame of letters. -/
namespace Go.Proofs.Ytebnladkogkpfaa.Q
open Go.RowKit Go.Proofs.YtebnladkogkpfaaW.PrintWords Go.Proofs.YtebnladkogkpfaaW.PrintLast Go.Proofs.YtebnladkogkpfaaW.PrintMore
open T (tabOf prs)
set_option linter.unusedVariables false
set_option linter.unusedSimpArgs false

def firstLoop : Code → Option Code
  | .loop c => some c
  | .seq a b => match firstLoop a with
    | some c => some c
    | none => firstLoop b
  | .block _ c => firstLoop c
  | .scope c => firstLoop c
  | .cond _ a b => match firstLoop a with
    | some c => some c
    | none => firstLoop b
  | _ => none
noncomputable def mOuter : Code := ((Try.f39.body.bind firstLoop).getD .skip)
noncomputable def mInner : Code := ((firstLoop mOuter).getD .skip)

set_option maxHeartbeats 4000000 in
set_option maxRecDepth 100000 in
theorem inner_round {D c c1 cap gon b7 g j : Nat} {ad ad2 : Addr} {l : List (List Int)} {row : List Int} {X BX : Array Value} {vrk cu : Value} {lrk : List (List Int)} {w wr : World} (N N2 N3 N4 N5 : Act → World → Prop) (post : Ending → World → Prop) (s0 s1 s2 s3 s4 s5 s6 s9 s11 s12 s13 s14 s15 s16 s17 s18 s19 s20 s21 s22 s23 s24 s25 s26 s27 s28 s29 s30 s31 s32 s33 s34 s35 s36 s37 s38 s39 s40 s41 s42 s43 s44 s45 s46 s47 s48 s49 s50 s51 s52 s53 s54 s55 s56 s57 s58 s59 s60 s61 s62 s63 s64 s65 s66 s67 s68 s69 s70 s71 s72 s73 s74 s75 s76 s77 s78 s79 s80 s81 s82 s83 s84 s85 s86 s87 s88 s89 s90 s91 s92 s93 s94 s95 s96 s97 s98 s99 s100 s101 s102 s103 s104 s105 s106 s107 s108 s109 s110 s111 s112 s116 s117 s118 s119 s120 s121 s122 s123 s124 s125 s126 s127 s128 s129 s130 s131 s132 s133 s134 s135 s136 s137 s138 s139 s140 s141 s142 s143 s144 s145 s146 s147 s148 : Value)
    (hlt : j < row.length) (hrow : row.length ≤ 60) (hX8 : X[8]? = some (.slice (some ⟨gon, 0, none⟩) D cap)) {d : Nat} (hdD : d < D) (hde : row[j] = (d : Int)) (hnot : ¬ ((d : Int) ∈ row.take j)) (hl : T.onUpto l g (d : Int) = T.onUpto l g (d : Int)) (hg : g ≤ 4096)
    (hx2 : wr.cell? (ad2.add j) = some (.int .i64 d)) (S : St w BX X b7 wr) (M : T.M3 w.heap.size (.slice (some ⟨gon, 0, none⟩) D cap) vrk cu (T.onAt l D g row j) lrk ((row.take j).map fun d => ((T.onUpto l g d).length : Int)) wr) (hcf : ∃ A n c, cu = .slice A n c)
    (hQ : ∀ (cu' : Value) (u12 u116 u117 u118 u119 u120 u121 u122 u123 u124 u125 u126 u127 u128 u129 u130 u131 u132 u133 u134 u135 u136 u137 u138 u139 u140 : Value) (w' : World), (∃ A n c, cu' = .slice A n c) → St w BX X b7 w' → T.M3 w.heap.size (.slice (some ⟨gon, 0, none⟩) D cap) vrk cu' (T.onAt l D g row (j + 1)) lrk ((row.take (j + 1)).map fun d => ((T.onUpto l g d).length : Int)) w' →
      N ⟨#[s0, s1, s2, s3, s4, s5, s6, .pointer (some ⟨b7, 0, none⟩), .int .i64 g, s9, cu', s11, u12, s13, s14, s15, s16, s17, s18, s19, s20, s21, s22, s23, s24, s25, s26, s27, s28, s29, s30, s31, s32, s33, s34, s35, s36, s37, s38, s39, s40, s41, s42, s43, s44, s45, s46, s47, s48, s49, s50, s51, s52, s53, s54, s55, s56, s57, s58, s59, s60, s61, s62, s63, s64, s65, s66, s67, s68, s69, s70, s71, s72, s73, s74, s75, s76, s77, s78, s79, s80, s81, s82, s83, s84, s85, s86, s87, s88, s89, s90, s91, s92, s93, s94, s95, s96, s97, s98, s99, s100, s101, s102, s103, s104, s105, s106, s107, s108, s109, s110, s111, s112, .slice (some ad2) row.length c1, .int .i64 row.length, .int .i64 ((j + 1 : Nat) : Int), u116, u117, u118, u119, u120, u121, u122, u123, u124, u125, u126, u127, u128, u129, u130, u131, u132, u133, u134, u135, u136, u137, u138, u139, u140, s141, s142, s143, s144, s145, s146, s147, s148], []⟩ w') :
    Code.wp Try.prog mInner (Exit.then N (Exit.inBlock 2 (Exit.then N2 (Exit.inBlock 1 (Exit.then N3 (Exit.then N4 (Exit.inBlock 0 (Exit.then N5 (bodyPost Try.prog Try.f39 post))))))))) ⟨#[s0, s1, s2, s3, s4, s5, s6, .pointer (some ⟨b7, 0, none⟩), .int .i64 g, s9, cu, s11, s12, s13, s14, s15, s16, s17, s18, s19, s20, s21, s22, s23, s24, s25, s26, s27, s28, s29, s30, s31, s32, s33, s34, s35, s36, s37, s38, s39, s40, s41, s42, s43, s44, s45, s46, s47, s48, s49, s50, s51, s52, s53, s54, s55, s56, s57, s58, s59, s60, s61, s62, s63, s64, s65, s66, s67, s68, s69, s70, s71, s72, s73, s74, s75, s76, s77, s78, s79, s80, s81, s82, s83, s84, s85, s86, s87, s88, s89, s90, s91, s92, s93, s94, s95, s96, s97, s98, s99, s100, s101, s102, s103, s104, s105, s106, s107, s108, s109, s110, s111, s112, .slice (some ad2) row.length c1, .int .i64 row.length, .int .i64 j, s116, s117, s118, s119, s120, s121, s122, s123, s124, s125, s126, s127, s128, s129, s130, s131, s132, s133, s134, s135, s136, s137, s138, s139, s140, s141, s142, s143, s144, s145, s146, s147, s148], []⟩ wr := by
  have hu67 := Try.underlying67
  have hon : (T.onAt l D g row j)[d]? = some (T.onUpto l g d) := by rw [T.onAt_get _ _ _ _ _ hdD, if_neg hnot, List.append_nil]
  obtain ⟨Ad, cd, vd, hvd, hcd, hfd, hod, hnd, hgz, hgb, ⟨gcells, hgc⟩, hnext⟩ := M.elem d hdD hon
  subst hvd
  have hol : (T.onUpto l g d).length ≤ 4096 := by have := T.onUpto_len l g d; omega
  obtain ⟨n_, hn_⟩ : ∃ n_, n_ = (T.onUpto l g d).length := ⟨_, rfl⟩
  have hcur' : ((row.take (j + 1)).map fun d => ((T.onUpto l g d).length : Int)) = ((row.take j).map fun d => ((T.onUpto l g d).length : Int)) ++ [(n_ : Int)] := by rw [List.take_succ_eq_append_getElem hlt, List.map_append, hn_, hde]; rfl
  have hcl : ((row.take j).map fun d => ((T.onUpto l g d).length : Int)).length = j := by rw [List.length_map, List.length_take]; omega
  have hown := M.own
  obtain ⟨A1, n1, c1', rfl⟩ := hcf
  have ej : j = n1 := by
    obtain ⟨Pon, Prk, Pcu, _, _, _, _, _, hC⟩ := M
    have := (Kd.R_reads' hC).1
    rw [hcl] at this
    exact this.symm
  subst ej
  rw [hcl] at hown
  rw [← hn_] at hcd hod hnd hnext hol
  have HN_ := Aside0.mk hn_
  have HCUR := Aside0.mk hcur'
  have HCL := Aside0.mk hcl
  have HOD := Aside0.mk hod
  have HND := Aside0.mk hnd
  have HON := Aside0.mk hon
  have HGC := Aside0.mk hgc
  have HGB := Aside0.mk hgb
  have HDE := Aside0.mk hde
  have HS := Aside0.mk S
  have HM := Aside0.mk M
  have HOWN := Aside0.mk hown
  have HQ := Aside0.mk hQ
  have HNEXT := Aside0.mk (@hnext)
  have hcn8 := (blk_cell S.num 8).trans hX8
  have HX8 := Aside0.mk hX8
  obtain ⟨i3, hi3, hz30, hz31, hz32⟩ := info_parts info3
  have HI3 := Aside0.mk hi3
  have HZ0 := Aside0.mk hz30
  have HZ1 := Aside0.mk hz31
  have HZ2 := Aside0.mk hz32
  clear hn_ hcur' hcl hod hnd hnext hon hgc hgb hde hnot hi3 hz30 hz31 hz32 S M hown hQ hX8 hl
  conv => arg 2; whnf
  go_wp2_with (at_builtin; go_loud (refine wpList_append_lies _ rfl _ _ _ rfl w.heap.size 3 i3 _ 1 8 Try.underlying56 HI3.out HZ0.out HZ1.out HZ2.out rfl (by omega) (.slice A1 j c1') j _ rfl (HOWN.out.alloc _) ⟨wr.heap.size, 0, none⟩ 1 1 [.int .i64 n_] rfl rfl (World.news_of_block (cs := #[.int .i64 n_]) (t := 3) (fr := (0, 0)) (heap_alloc_new wr _)) (by simp [Value.oneCell']) (by omega) (by unfold maxLen; omega) (by omega) (by rw [World.size_alloc]; exact Nat.le_succ_of_le HS.out.bel.size) (wr.heap.size + 1) (by rw [World.size_alloc]) ?_; intro gg cap1 w12 hown12 hgrow12 hat12 hlt12; have O12 := Aside0.mk hown12; have G12 := Aside0.mk hgrow12; have A12 := Aside0.mk hat12; clear hown12 hgrow12 hat12 hlt12 hcd hfd hcn8 hgz))
  have S12 : Aside0 (St w BX X b7 w12) := ⟨(HS.out.below (below_alloc (Below.refl _ _) _)).grown G12.out (own_block (HOWN.out.alloc _) (.inl rfl))⟩
  have M12 : Aside0 (T.M3 w.heap.size (.slice (some ⟨gon, 0, none⟩) D cap) vrk (.slice (some ⟨gg, 0, none⟩) (j + 1) cap1) (T.onAt l D g row j) lrk ((row.take (j + 1)).map fun d => ((T.onUpto l g d).length : Int)) w12) := ⟨(HM.out.alloc _).cur G12.out (A12.out.elim (fun e => .inl (by rw [e]; rfl)) (fun e => .inr ⟨gg, rfl, by rw [World.size_alloc]; omega⟩)) (by rw [HCUR.out, ← encs_snoc, List.length_append, HCL.out]; exact O12.out)⟩
  clear O12 G12 A12 HM HS HOWN HOD HND HGC HGB HNEXT
  obtain ⟨Ad, cd, vd, hvd, hcd, hfd, hod, hnd, hgz, hgb, ⟨gcells, hgc⟩, hnext⟩ := M12.out.elem d hdD HON.out
  subst hvd
  rw [← HN_.out] at hcd hod hnd hnext
  have HOD := Aside0.mk hod
  have HND := Aside0.mk hnd
  have HGC := Aside0.mk hgc
  have HGB := Aside0.mk hgb
  have HNEXT := Aside0.mk (@hnext)
  have hcn8 := (blk_cell S12.out.num 8).trans HX8.out
  have hz7 := blk_lt S12.out.num
  have HNE7 : Aside0 (some b7 ≠ (Value.slice Ad n_ cd).ownBlock) := ⟨fun he => by
    obtain ⟨cells, hc⟩ := own_typed HOD.out b7 he.symm
    rw [S12.out.num] at hc
    injection hc with hc
    injection hc with _ hc
    cases hc⟩
  clear hod hnd hgc hgb hnext
  go_wp2_with fail
  have hne78 : ¬ (b7 = w12.heap.size) := by omega
  have hneg8 : ¬ (gon = w12.heap.size) := by omega
  go_region_law ((refine step_append_lies _ (by rfl) _ _ _ (by rfl) w.heap.size 3 i3 _ 1 8 Try.underlying56 HI3.out HZ0.out HZ1.out HZ2.out rfl (by omega) (.slice Ad n_ cd) n_ _ (by rfl) ((HOD.out.alloc _).drew) ⟨w12.heap.size, 0, none⟩ 1 1 [.int .i64 g] (by rfl) (by rfl) (World.news_of_block (cs := #[.int .i64 g]) (t := 3) (fr := (0, 0)) (heap_alloc_new w12 _)) (by simp [Value.oneCell']) (by omega) (by unfold maxLen; omega) (by omega) (by rw [World.size_drew, World.size_alloc]; exact Nat.le_succ_of_le S12.out.bel.size) (w12.heap.size + 1) (by rw [World.size_drew, World.size_alloc]) ?_; intro gg2 cap2 w13 hown13 hgrow13 hat13 hlt13; have hk1 : w13.cell? ⟨b7, 8, none⟩ = some (.slice (some ⟨gon, 0, none⟩) D cap) := hgrow13.cell ((blk_cell (blk_drew (blk_alloc S12.out.num _)) 8).trans HX8.out) HNE7.out; have hk2 : w13.cell? ⟨gon, d, none⟩ = some (.slice Ad n_ cd) := hgrow13.cell (pw_cell_below (below_drew (below_alloc (Below.refl _ _) _)) hcd) (Ne.symm HND.out); have hk3 : w13.frozen? ⟨gon, d, none⟩ = false := blk_frozen (blk_grown (blk_drew (blk_alloc HGC.out _)) hgrow13 (Ne.symm HND.out)) d; have O13 := Aside0.mk hown13; have G13 := Aside0.mk hgrow13; have A13 := Aside0.mk hat13; clear hown13 hgrow13 hat13 hlt13))
  all_goals
    have S13 : Aside0 (St w BX X b7 (w13.setCell ⟨gon, d, none⟩ (.slice (some ⟨gg2, 0, none⟩) (n_ + 1) cap2))) := ⟨((S12.out.below (below_drew (below_alloc (Below.refl _ _) _))).grown G13.out (own_block ((HOD.out.alloc _).drew) (.inl rfl))).far (blk_grown (blk_drew (blk_alloc HGC.out _)) G13.out (Ne.symm HND.out)) HGB.out _ _⟩
    have M13 := Aside0.mk (HNEXT.out (W := (w12.alloc (.cells #[.int .i64 g] 3)).drew) (w1 := w13) (vd' := .slice (some ⟨gg2, 0, none⟩) (n_ + 1) cap2) (xs' := T.onUpto l g d ++ [(g : Int)]) (below_drew (below_alloc (Below.refl _ _) _)) G13.out (A13.out.elim (fun e => .inl (by rw [e]; rfl)) (fun e => .inr ⟨gg2, rfl, by rw [World.size_drew, World.size_alloc]; omega⟩)) rfl (by rw [← encs_snoc, List.length_append, ← HN_.out]; exact O13.out))
    rw [T.onAt_set l D g row j hlt HDE.out] at M13
    clear HOD HND HGC HGB HNEXT O13 G13 A13 hk1 hk2 hk3
    go_wp2
    exact HQ.out _ _ _ _ _ _ _ _ _ _ _ _ _ _ _ _ _ _ _ _ _ _ _ _ _ _ _ _ ⟨_, _, _, rfl⟩ S13.out M13.out
end Go.Proofs.Ytebnladkogkpfaa.Q
