-- Written by this session's own program (wip/own_print.py) over the kit's print, with this session's hand-proved contracts in their places; Lean checks it.
import Derived.Test.YtihmkdjambdfjaaXLeafz0
namespace Go.Proofs.Ytihmkdjambdfjaa.XLeaf
open Go.RowKit Go.Proofs.YtihmkdjambdfjaaW.PrintWords Go.Proofs.YtihmkdjambdfjaaW.PrintLast Go.Proofs.YtihmkdjambdfjaaW.PrintMore
attribute [local go_sem] max2_int min2_int max_two min_two max_three min_three max_four min_four   -- for this text's walks alone
set_option linter.unusedVariables false
set_option linter.unusedSimpArgs false

/-! ### rowlockref10_Great: function 9 -/

/-! ### rowlocklaw10_fixed: function 10 -/

/-! ### leaf_Compare: function 11 -/

/-! ### rowlockref10_Less: function 12 -/

/-! ### rowlocklaw10_LeafCompare: function 3 -/
def rowlocklaw10_LeafCompare.j0 : Nat → Int → Int → Int → Int → ByteArray → Int → Int → ByteArray → Int → Int → Option (Bool)
 | 0, _, _, _, _, _, _, _, _, _, _ => none
 | k + 1, x7, x8, x9, x10, x102000, x102001, x102002, x103000, x103001, x103002 => (rowlockref10_Less.f x103000 x103001 x103002 x102000 x102001 x102002).bind fun t113 => (if t113 = true then ((rowlocklaw10_fixed.f).bind fun t114 => (if t114 = true then (if x7 = 1 then ((leaf_Compare.f k x103000 x103001 x103002 x102000 x102001 x102002).bind fun t115 => (if t115 = (wrap64 (-x7)) then (if x7 > 0 then (some true) else (if x8 > 0 then (some true) else (some (decide (x9 ≤ 0))))) else (some false))) else (some false)) else (some false))) else ((rowlocklaw10_fixed.f).bind fun t116 => (if t116 = true then (if x7 = x10 then ((leaf_Compare.f k x103000 x103001 x103002 x102000 x102001 x102002).bind fun t117 => (if t117 = (wrap64 (-x7)) then (if x7 > 0 then (some true) else (if x8 > 0 then (some true) else (some (decide (x9 ≤ 0))))) else (some false))) else (some false)) else (some false))))
def rowlocklaw10_LeafCompare.f (k : Nat) (a0_0 : ByteArray) (a0_1 : Int) (a0_2 : Int) (a1_0 : ByteArray) (a1_1 : Int) (a1_2 : Int) (a2_0 : ByteArray) (a2_1 : Int) (a2_2 : Int) : Option (Bool) := (rowlockref10_Great.f k (([(⟨a0_0, (⟨a0_1, a0_2⟩ : S25)⟩ : S27), (⟨a1_0, (⟨a1_1, a1_2⟩ : S25)⟩ : S27), (⟨a2_0, (⟨a2_1, a2_2⟩ : S25)⟩ : S27)] : List (S27)))).bind fun t107 => (if t107 = true then ((rowlocklaw10_fixed.f).bind fun t108 => (some t108)) else ((leaf_Compare.f k a0_0 a0_1 a0_2 a1_0 a1_1 a1_2).bind fun t109 => ((leaf_Compare.f k a1_0 a1_1 a1_2 a2_0 a2_1 a2_2).bind fun t110 => ((leaf_Compare.f k a0_0 a0_1 a0_2 a2_0 a2_1 a2_2).bind fun t111 => ((rowlockref10_Less.f a0_0 a0_1 a0_2 a1_0 a1_1 a1_2).bind fun t112 => (if t112 = true then (rowlocklaw10_LeafCompare.j0 k t109 t110 t111 (-1) a0_0 a0_1 a0_2 a1_0 a1_1 a1_2) else (rowlocklaw10_LeafCompare.j0 k t109 t110 t111 0 a0_0 a0_1 a0_2 a1_0 a1_1 a1_2)))))))
theorem rowlocklaw10_LeafCompare.mono_l : ∀ k, (∀ y0 y1 y2 y3 y4 y5 y6 y7 y8 y9, LeO (rowlocklaw10_LeafCompare.j0 k y0 y1 y2 y3 y4 y5 y6 y7 y8 y9) (rowlocklaw10_LeafCompare.j0 (k + 1) y0 y1 y2 y3 y4 y5 y6 y7 y8 y9))
 | 0 => fun _ _ _ _ _ _ _ _ _ _ r h => by simp [rowlocklaw10_LeafCompare.j0] at h
 | k + 1 => by
  have ih0 := rowlocklaw10_LeafCompare.mono_l k
  ·intro y0 y1 y2 y3 y4 y5 y6 y7 y8 y9
   unfold rowlocklaw10_LeafCompare.j0
   repeat' first
   | (with_reducible exact ih0 _ _ _ _ _ _ _ _ _ _)
   | (with_reducible exact leaf_Compare.mono _ _ _ _ _ _ _)
   | (with_reducible exact rowlockref10_Great.mono _ _)
   | (with_reducible exact LeO.refl _)
   | (with_reducible exact LeO.none _)
   | (with_reducible refine LeO.ite ?_ ?_)
   | (with_reducible refine LeO.bind ?_ (fun _ => ?_))
   | exact ih0 _ _ _ _ _ _ _ _ _ _
   | exact leaf_Compare.mono _ _ _ _ _ _ _
   | exact rowlockref10_Great.mono _ _
   | exact LeO.none _
   | refine LeO.ite ?_ ?_
   | refine LeO.bind ?_ (fun _ => ?_)
theorem rowlocklaw10_LeafCompare.mono : ∀ a0 a1 a2 a3 a4 a5 a6 a7 a8 k, LeO (rowlocklaw10_LeafCompare.f k a0 a1 a2 a3 a4 a5 a6 a7 a8) (rowlocklaw10_LeafCompare.f (k + 1) a0 a1 a2 a3 a4 a5 a6 a7 a8) := by
 intro a0 a1 a2 a3 a4 a5 a6 a7 a8 k
 have ih0 := rowlocklaw10_LeafCompare.mono_l k
 unfold rowlocklaw10_LeafCompare.f
 repeat' first
   | (with_reducible exact ih0 _ _ _ _ _ _ _ _ _ _)
   | (with_reducible exact leaf_Compare.mono _ _ _ _ _ _ _)
   | (with_reducible exact rowlockref10_Great.mono _ _)
   | (with_reducible exact LeO.refl _)
   | (with_reducible exact LeO.none _)
   | (with_reducible refine LeO.ite ?_ ?_)
   | (with_reducible refine LeO.bind ?_ (fun _ => ?_))
   | exact ih0 _ _ _ _ _ _ _ _ _ _
   | exact leaf_Compare.mono _ _ _ _ _ _ _
   | exact rowlockref10_Great.mono _ _
   | exact LeO.none _
   | refine LeO.ite ?_ ?_
   | refine LeO.bind ?_ (fun _ => ?_)
def rowlocklaw10_LeafCompare.T3 : Bool × List (List Nat × List Nat) := (true, [([], []), ([], []), ([0, 1], [0, 1]), ([], []), ([], []), ([3, 4, 2], [3, 4]), ([], []), ([], []), ([6, 7, 5], [6, 7]), ([2, 8, 0, 1, 2], [2]), ([5, 9, 0, 1, 2, 3, 4, 5, 9], [5]), ([8, 10, 0, 1, 2, 3, 4, 5, 6, 7, 8, 9, 10], [8])])
def rowlocklaw10_LeafCompare.B3 : List Nat := [0, 0, 3, 0, 0, 31, 0, 0, 255, 511, 1023, 2047]
theorem rowlocklaw10_LeafCompare.tab3 : rtab .any (opsOf Try.f3 3) = rowlocklaw10_LeafCompare.T3 := by kernel_rfl
theorem rowlocklaw10_LeafCompare.bits3 : waitsOk rowlocklaw10_LeafCompare.T3.2 rowlocklaw10_LeafCompare.B3 = true := by kernel_rfl
set_option maxHeartbeats 8000000 in
set_option maxRecDepth 100000 in
theorem rowlocklaw10_LeafCompare.calls (k : Nat) (a0_0 : ByteArray) (a0_1 : Int) (a0_2 : Int) (a1_0 : ByteArray) (a1_1 : Int) (a1_2 : Int) (a2_0 : ByteArray) (a2_1 : Int) (a2_2 : Int) (r : Bool) (w : World) (h : rowlocklaw10_LeafCompare.f k a0_0 a0_1 a0_2 a1_0 a1_1 a1_2 a2_0 a2_1 a2_2 = some r) :
  Calls Try.prog 3 #[.agg #[.string a0_0, .int .u32 a0_1, .int .u16 a0_2], .agg #[.string a1_0, .int .u32 a1_1, .int .u16 a1_2], .agg #[.string a2_0, .int .u32 a2_1, .int .u16 a2_2]] w fun e w' => e = .returned (.bool r) ∧ Below w.heap.size w w' := by
 have hu27 := Try.underlying27
 have HB := Aside0.mk (Below.refl w.heap.size w)
 have H : ((rowlockref10_Great.f k (([(⟨a0_0, (⟨a0_1, a0_2⟩ : S25)⟩ : S27), (⟨a1_0, (⟨a1_1, a1_2⟩ : S25)⟩ : S27), (⟨a2_0, (⟨a2_1, a2_2⟩ : S25)⟩ : S27)] : List (S27)))).bind fun t107 => (if t107 = true then ((rowlocklaw10_fixed.f).bind fun t108 => (some t108)) else ((leaf_Compare.f k a0_0 a0_1 a0_2 a1_0 a1_1 a1_2).bind fun t109 => ((leaf_Compare.f k a1_0 a1_1 a1_2 a2_0 a2_1 a2_2).bind fun t110 => ((leaf_Compare.f k a0_0 a0_1 a0_2 a2_0 a2_1 a2_2).bind fun t111 => ((rowlockref10_Less.f a0_0 a0_1 a0_2 a1_0 a1_1 a1_2).bind fun t112 => (if t112 = true then (rowlocklaw10_LeafCompare.j0 k t109 t110 t111 (-1) a0_0 a0_1 a0_2 a1_0 a1_1 a1_2) else (rowlocklaw10_LeafCompare.j0 k t109 t110 t111 0 a0_0 a0_1 a0_2 a1_0 a1_1 a1_2)))))))) = some r := h
 clear h
 obtain ⟨y104, hy104⟩ : ∃ y_ : List (S27), y_ = (([(⟨a0_0, (⟨a0_1, a0_2⟩ : S25)⟩ : S27), (⟨a1_0, (⟨a1_1, a1_2⟩ : S25)⟩ : S27), (⟨a2_0, (⟨a2_1, a2_2⟩ : S25)⟩ : S27)] : List (S27))) := ⟨_, rfl⟩
 replace H : ((rowlockref10_Great.f k y104).bind fun t107 => (if t107 = true then ((rowlocklaw10_fixed.f).bind fun t108 => (some t108)) else ((leaf_Compare.f k a0_0 a0_1 a0_2 a1_0 a1_1 a1_2).bind fun t109 => ((leaf_Compare.f k a1_0 a1_1 a1_2 a2_0 a2_1 a2_2).bind fun t110 => ((leaf_Compare.f k a0_0 a0_1 a0_2 a2_0 a2_1 a2_2).bind fun t111 => ((rowlockref10_Less.f a0_0 a0_1 a0_2 a1_0 a1_1 a1_2).bind fun t112 => (if t112 = true then (rowlocklaw10_LeafCompare.j0 k t109 t110 t111 (-1) a0_0 a0_1 a0_2 a1_0 a1_1 a1_2) else (rowlocklaw10_LeafCompare.j0 k t109 t110 t111 0 a0_0 a0_1 a0_2 a1_0 a1_1 a1_2)))))))) = some r := by first | (rw [hy104]; with_reducible exact H) | (have H2_ := (Option.bind_some _ _).symm.trans H; rw [hy104]; with_reducible exact H2_) | (have H2_ := (Option.bind_some _ _).symm.trans H; with_reducible exact H2_) | with_reducible exact H | (rw [hy104]; exact H) | exact H
 have Ny104 := Aside0.mk hy104
 clear hy104
 replace H := Option.bind_eq_some_iff.mp H
 obtain ⟨t107, A40, H⟩ := H
 replace H : (if t107 = true then ((rowlocklaw10_fixed.f).bind fun t108 => (some t108)) else ((leaf_Compare.f k a0_0 a0_1 a0_2 a1_0 a1_1 a1_2).bind fun t109 => ((leaf_Compare.f k a1_0 a1_1 a1_2 a2_0 a2_1 a2_2).bind fun t110 => ((leaf_Compare.f k a0_0 a0_1 a0_2 a2_0 a2_1 a2_2).bind fun t111 => ((rowlockref10_Less.f a0_0 a0_1 a0_2 a1_0 a1_1 a1_2).bind fun t112 => (if t112 = true then (rowlocklaw10_LeafCompare.j0 k t109 t110 t111 (-1) a0_0 a0_1 a0_2 a1_0 a1_1 a1_2) else (rowlocklaw10_LeafCompare.j0 k t109 t110 t111 0 a0_0 a0_1 a0_2 a1_0 a1_1 a1_2))))))) = some r := H
 have A4 := Aside0.mk A40
 clear A40
 by_cases c5 : t107 = true
 ·subst c5
  have H1 : ((rowlocklaw10_fixed.f).bind fun t108 => (some t108)) = some r := by rw [if_pos rfl] at H; exact H
  clear H
  have H := H1
  clear H1
  replace H := Option.bind_eq_some_iff.mp H
  obtain ⟨t108, A60, H⟩ := H
  replace H : (some t108) = some r := H
  have A6 := Aside0.mk A60
  clear A60
  obtain rfl := Option.some.inj H
  go_enter Try.func3, Try.ntmps3
  go_wp2_with (first | ((with_reducible refine gate_dst (N := 3) rfl ?_); refine box_event ?hg (N := 3) ?hd (cs := #[.string a0_0, .int .u32 a0_1, .int .u16 a0_2]) (t := 27) ?hr ?_; (case hd => rfl); (case hg => rfl); (case hr => first | (go_simp; done) | (go_simp; rfl)); intro gb101 hg w7 hbox hb; have n0_ := Aside0.mk (below_step (by repeat (first | (with_reducible first | exact HB.out | apply below_alloc | apply pw_below_drewN | apply below_drew1) | exact HB.out)) hb); have n1_ := Aside0.mk (hbox); have n2_ := Aside0.mk ((by rw [hg]; exact (below_size (by repeat (first | (with_reducible first | exact HB.out | apply below_alloc | apply pw_below_drewN | apply below_drew1) | exact HB.out))) : w.heap.size ≤ gb101)); have n3_ := Aside0.mk ((by rw [hg]; exact (below_size (by repeat (first | (with_reducible first | exact HB.out | apply below_alloc | apply pw_below_drewN | apply below_drew1) | exact HB.out))) : w.heap.size ≤ gb101)); clear HB; have HB := n0_; have BK101 := n1_; have GW101 := n2_; have GE101 := n3_; clear n0_ n1_ n2_ n3_; clear hb hbox hg) | ((with_reducible refine gate_dst (N := 4) rfl ?_); refine box_event ?hg (N := 4) ?hd (cs := #[.string a1_0, .int .u32 a1_1, .int .u16 a1_2]) (t := 27) ?hr ?_; (case hd => rfl); (case hg => rfl); (case hr => first | (go_simp; done) | (go_simp; rfl)); intro gb102 hg w8 hbox hb; have n0_ := Aside0.mk (blk_below (g := gb101) (o := .cells #[.string a0_0, .int .u32 a0_1, .int .u16 a0_2] 27 (0, 0)) (by (with_reducible repeat (first | refine blk_drewN ?_ _ | refine blk_drew ?_ | refine blk_alloc ?_ _)); exact BK101.out) hb); have n1_ := Aside0.mk (below_step (by repeat (first | (with_reducible first | exact HB.out | apply below_alloc | apply pw_below_drewN | apply below_drew1 | refine below_set ?_ GE101.out) | exact HB.out)) hb); have n2_ := Aside0.mk (hbox); have n3_ := Aside0.mk ((by rw [hg]; exact (below_size (by repeat (first | (with_reducible first | exact HB.out | apply below_alloc | apply pw_below_drewN | apply below_drew1 | refine below_set ?_ GE101.out) | exact HB.out))) : w.heap.size ≤ gb102)); have n4_ := Aside0.mk ((by rw [hg]; exact (below_size (by repeat (first | (with_reducible first | exact HB.out | apply below_alloc | apply pw_below_drewN | apply below_drew1 | refine below_set ?_ GE101.out) | exact HB.out))) : w.heap.size ≤ gb102)); have n5_ := Aside0.mk ((by rw [hg]; exact Nat.ne_of_lt (blk_lt (g := gb101) (o := .cells #[.string a0_0, .int .u32 a0_1, .int .u16 a0_2] 27 (0, 0)) (by (with_reducible repeat (first | refine blk_drewN ?_ _ | refine blk_drew ?_ | refine blk_alloc ?_ _)); exact BK101.out)) : gb101 ≠ gb102)); have n6_ := Aside0.mk ((by rw [hg]; exact Nat.ne_of_gt (blk_lt (g := gb101) (o := .cells #[.string a0_0, .int .u32 a0_1, .int .u16 a0_2] 27 (0, 0)) (by (with_reducible repeat (first | refine blk_drewN ?_ _ | refine blk_drew ?_ | refine blk_alloc ?_ _)); exact BK101.out)) : gb102 ≠ gb101)); clear BK101; clear HB; have BK101 := n0_; have HB := n1_; have BK102 := n2_; have GW102 := n3_; have GE102 := n4_; have NB101_102 := n5_; have NB102_101 := n6_; clear n0_ n1_ n2_ n3_ n4_ n5_ n6_; clear hb hbox hg) | ((with_reducible refine gate_dst (N := 5) rfl ?_); refine box_event ?hg (N := 5) ?hd (cs := #[.string a2_0, .int .u32 a2_1, .int .u16 a2_2]) (t := 27) ?hr ?_; (case hd => rfl); (case hg => rfl); (case hr => first | (go_simp; done) | (go_simp; rfl)); intro gb103 hg w9 hbox hb; have n0_ := Aside0.mk (blk_below (g := gb101) (o := .cells #[.string a0_0, .int .u32 a0_1, .int .u16 a0_2] 27 (0, 0)) (by (with_reducible repeat (first | refine blk_drewN ?_ _ | refine blk_drew ?_ | refine blk_alloc ?_ _)); exact BK101.out) hb); have n1_ := Aside0.mk (blk_below (g := gb102) (o := .cells #[.string a1_0, .int .u32 a1_1, .int .u16 a1_2] 27 (0, 0)) (by (with_reducible repeat (first | refine blk_drewN ?_ _ | refine blk_drew ?_ | refine blk_alloc ?_ _)); exact BK102.out) hb); have n2_ := Aside0.mk (below_step (by repeat (first | (with_reducible first | exact HB.out | apply below_alloc | apply pw_below_drewN | apply below_drew1 | refine below_set ?_ GE101.out | refine below_set ?_ GE102.out) | exact HB.out)) hb); have n3_ := Aside0.mk (hbox); have n4_ := Aside0.mk ((by rw [hg]; exact (below_size (by repeat (first | (with_reducible first | exact HB.out | apply below_alloc | apply pw_below_drewN | apply below_drew1 | refine below_set ?_ GE101.out | refine below_set ?_ GE102.out) | exact HB.out))) : w.heap.size ≤ gb103)); have n5_ := Aside0.mk ((by rw [hg]; exact (below_size (by repeat (first | (with_reducible first | exact HB.out | apply below_alloc | apply pw_below_drewN | apply below_drew1 | refine below_set ?_ GE101.out | refine below_set ?_ GE102.out) | exact HB.out))) : w.heap.size ≤ gb103)); have n6_ := Aside0.mk ((by rw [hg]; exact Nat.ne_of_lt (blk_lt (g := gb101) (o := .cells #[.string a0_0, .int .u32 a0_1, .int .u16 a0_2] 27 (0, 0)) (by (with_reducible repeat (first | refine blk_drewN ?_ _ | refine blk_drew ?_ | refine blk_alloc ?_ _)); exact BK101.out)) : gb101 ≠ gb103)); have n7_ := Aside0.mk ((by rw [hg]; exact Nat.ne_of_gt (blk_lt (g := gb101) (o := .cells #[.string a0_0, .int .u32 a0_1, .int .u16 a0_2] 27 (0, 0)) (by (with_reducible repeat (first | refine blk_drewN ?_ _ | refine blk_drew ?_ | refine blk_alloc ?_ _)); exact BK101.out)) : gb103 ≠ gb101)); have n8_ := Aside0.mk ((by rw [hg]; exact Nat.ne_of_lt (blk_lt (g := gb102) (o := .cells #[.string a1_0, .int .u32 a1_1, .int .u16 a1_2] 27 (0, 0)) (by (with_reducible repeat (first | refine blk_drewN ?_ _ | refine blk_drew ?_ | refine blk_alloc ?_ _)); exact BK102.out)) : gb102 ≠ gb103)); have n9_ := Aside0.mk ((by rw [hg]; exact Nat.ne_of_gt (blk_lt (g := gb102) (o := .cells #[.string a1_0, .int .u32 a1_1, .int .u16 a1_2] 27 (0, 0)) (by (with_reducible repeat (first | refine blk_drewN ?_ _ | refine blk_drew ?_ | refine blk_alloc ?_ _)); exact BK102.out)) : gb103 ≠ gb102)); clear BK101; clear BK102; clear HB; have BK101 := n0_; have BK102 := n1_; have HB := n2_; have BK103 := n3_; have GW103 := n4_; have GE103 := n5_; have NB101_103 := n6_; have NB103_101 := n7_; have NB102_103 := n8_; have NB103_102 := n9_; clear n0_ n1_ n2_ n3_ n4_ n5_ n6_ n7_ n8_ n9_; clear hb hbox hg; have hnb10 := NB101_102.out; have hnc10 := NB102_101.out; have hnb11 := NB101_103.out; have hnc11 := NB103_101.out; have hcz12_0 : w9.cell? ⟨gb101, 0, none⟩ = some (.string a0_0) := (blk_cell BK101.out 0).trans rfl; have hcz12_1 : w9.cell? ⟨gb101, 1, none⟩ = some (.int .u32 a0_1) := (blk_cell BK101.out 1).trans rfl; have hcz12_2 : w9.cell? ⟨gb101, 2, none⟩ = some (.int .u16 a0_2) := (blk_cell BK101.out 2).trans rfl; have hfz12_0 := blk_frozen BK101.out 0; have hfz12_1 := blk_frozen BK101.out 1; have hfz12_2 := blk_frozen BK101.out 2; have hnb13 := NB102_103.out; have hnc13 := NB103_102.out; have hcz14_0 : w9.cell? ⟨gb102, 0, none⟩ = some (.string a1_0) := (blk_cell BK102.out 0).trans rfl; have hcz14_1 : w9.cell? ⟨gb102, 1, none⟩ = some (.int .u32 a1_1) := (blk_cell BK102.out 1).trans rfl; have hcz14_2 : w9.cell? ⟨gb102, 2, none⟩ = some (.int .u16 a1_2) := (blk_cell BK102.out 2).trans rfl; have hfz14_0 := blk_frozen BK102.out 0; have hfz14_1 := blk_frozen BK102.out 1; have hfz14_2 := blk_frozen BK102.out 2; have hcz15_0 : w9.cell? ⟨gb103, 0, none⟩ = some (.string a2_0) := (blk_cell BK103.out 0).trans rfl; have hcz15_1 : w9.cell? ⟨gb103, 1, none⟩ = some (.int .u32 a2_1) := (blk_cell BK103.out 1).trans rfl; have hcz15_2 : w9.cell? ⟨gb103, 2, none⟩ = some (.int .u16 a2_2) := (blk_cell BK103.out 2).trans rfl; have hfz15_0 := blk_frozen BK103.out 0; have hfz15_1 := blk_frozen BK103.out 1; have hfz15_2 := blk_frozen BK103.out 2) | ((with_reducible refine gate_dst (N := 14) rfl ?_); refine Kd.R_lit k27 _ 27 ?hg (N := 14) ?hd (xs := ([(⟨a0_0, (⟨a0_1, a0_2⟩ : S25)⟩ : S27), (⟨a1_0, (⟨a1_1, a1_2⟩ : S25)⟩ : S27), (⟨a2_0, (⟨a2_1, a2_2⟩ : S25)⟩ : S27)] : List (S27))) (inner := [.string a0_0, .int .u32 a0_1, .int .u16 a0_2, .string a1_0, .int .u32 a1_1, .int .u16 a1_2, .string a2_0, .int .u32 a2_1, .int .u16 a2_2]) (ok := fun _ => True) (okp := fun _ => True) ?hr ?hp (fun _ hk => hk) trivial (Below.refl _ _) (Nat.le_refl _) (by simp) ?_; (case hd => rfl); (case hg => rfl); (case hr => first | (go_simp; done) | (go_simp; rfl)); (case hp => exact (Reps.c3 (show Kd.M k27 _ _ _ (⟨a0_0, (⟨a0_1, a0_2⟩ : S25)⟩ : S27) [.string a0_0, .int .u32 a0_1, .int .u16 a0_2] from (k27_mkM _ _ _ (⟨a0_0, (⟨a0_1, a0_2⟩ : S25)⟩ : S27) )) (Reps.c3 (show Kd.M k27 _ _ _ (⟨a1_0, (⟨a1_1, a1_2⟩ : S25)⟩ : S27) [.string a1_0, .int .u32 a1_1, .int .u16 a1_2] from (k27_mkM _ _ _ (⟨a1_0, (⟨a1_1, a1_2⟩ : S25)⟩ : S27) )) (Reps.c3 (show Kd.M k27 _ _ _ (⟨a2_0, (⟨a2_1, a2_2⟩ : S25)⟩ : S27) [.string a2_0, .int .u32 a2_1, .int .u16 a2_2] from (k27_mkM _ _ _ (⟨a2_0, (⟨a2_1, a2_2⟩ : S25)⟩ : S27) )) (Reps.none _ _))))); intro v105 w16 ho17 hb hg_ hnew_; clear hg_ hnew_; (first | rw [← Ny104.out] at ho17 | (simp only [Int.reduceToNat] at ho17; rw [← Ny104.out] at ho17)); have n0_ := Aside0.mk (Kd.R_lower (Kd.R_newB (Kd.R_newB (Kd.R_newB ho17 (g := gb101) (o := .cells #[.string a0_0, .int .u32 a0_1, .int .u16 a0_2] 27 (0, 0)) (by (with_reducible repeat (first | refine blk_drewN ?_ _ | refine blk_drew ?_ | refine blk_alloc ?_ _)); exact BK101.out)) (g := gb102) (o := .cells #[.string a1_0, .int .u32 a1_1, .int .u16 a1_2] 27 (0, 0)) (by (with_reducible repeat (first | refine blk_drewN ?_ _ | refine blk_drew ?_ | refine blk_alloc ?_ _)); exact BK102.out)) (g := gb103) (o := .cells #[.string a2_0, .int .u32 a2_1, .int .u16 a2_2] 27 (0, 0)) (by (with_reducible repeat (first | refine blk_drewN ?_ _ | refine blk_drew ?_ | refine blk_alloc ?_ _)); exact BK103.out)) (below_size (by repeat (first | (with_reducible first | exact HB.out | apply below_alloc | apply pw_below_drewN | apply below_drew1 | refine below_set ?_ GE101.out | refine below_set ?_ GE102.out | refine below_set ?_ GE103.out) | exact HB.out)))); have n1_ := Aside0.mk (blk_below (g := gb101) (o := .cells #[.string a0_0, .int .u32 a0_1, .int .u16 a0_2] 27 (0, 0)) (by (with_reducible repeat (first | refine blk_drewN ?_ _ | refine blk_drew ?_ | refine blk_alloc ?_ _)); exact BK101.out) hb); have n2_ := Aside0.mk (blk_below (g := gb102) (o := .cells #[.string a1_0, .int .u32 a1_1, .int .u16 a1_2] 27 (0, 0)) (by (with_reducible repeat (first | refine blk_drewN ?_ _ | refine blk_drew ?_ | refine blk_alloc ?_ _)); exact BK102.out) hb); have n3_ := Aside0.mk (blk_below (g := gb103) (o := .cells #[.string a2_0, .int .u32 a2_1, .int .u16 a2_2] 27 (0, 0)) (by (with_reducible repeat (first | refine blk_drewN ?_ _ | refine blk_drew ?_ | refine blk_alloc ?_ _)); exact BK103.out) hb); have n4_ := Aside0.mk (below_step (by repeat (first | (with_reducible first | exact HB.out | apply below_alloc | apply pw_below_drewN | apply below_drew1 | refine below_set ?_ GE101.out | refine below_set ?_ GE102.out | refine below_set ?_ GE103.out) | exact HB.out)) hb); clear BK101; clear BK102; clear BK103; clear HB; have HO106 := n0_; have BK101 := n1_; have BK102 := n2_; have BK103 := n3_; have HB := n4_; clear n0_ n1_ n2_ n3_ n4_; clear hb ho17; obtain ⟨Ao18, co18, eo18⟩ := Kd.R_slice HO106.out; subst eo18) | ((with_reducible refine gate_callee (f := 9) rfl ?_); refine goesL_ (some 15) rfl rfl Try.func9 (by kernel_rfl) rfl #[.slice Ao18 y104.length co18] rfl (by (try simp only [List.map_toArray, List.map_cons, List.map_nil]); first | done | rfl | (simp only [List.length_drop, List.length_take]; rfl)) ?_; (with_reducible refine (rowlockref10_Great.calls k _ _ y104 true _ ?side1 ?side2 A4.out).mono ?_); (case side1 => repeat (first | exact (Kd.R_reads' HO106.out).2.2 | (with_reducible refine Kd.C_alloc ?_ _) | (with_reducible refine Kd.C_drewN ?_ _) | (with_reducible refine Kd.C_drew ?_))); (case side2 => exact (Kd.R_reads' HO106.out).2.1); rintro e w19 ⟨rfl, hb⟩; refine ⟨_, rfl, ?_⟩; have n0_ := Aside0.mk (Kd.R_below (by (with_reducible repeat (first | apply Kd.R_alloc | apply Kd.R_drewN | apply Kd.R_drew)); exact HO106.out) hb); have n1_ := Aside0.mk (blk_below (g := gb101) (o := .cells #[.string a0_0, .int .u32 a0_1, .int .u16 a0_2] 27 (0, 0)) (by (with_reducible repeat (first | refine blk_drewN ?_ _ | refine blk_drew ?_ | refine blk_alloc ?_ _)); exact BK101.out) hb); have n2_ := Aside0.mk (blk_below (g := gb102) (o := .cells #[.string a1_0, .int .u32 a1_1, .int .u16 a1_2] 27 (0, 0)) (by (with_reducible repeat (first | refine blk_drewN ?_ _ | refine blk_drew ?_ | refine blk_alloc ?_ _)); exact BK102.out) hb); have n3_ := Aside0.mk (blk_below (g := gb103) (o := .cells #[.string a2_0, .int .u32 a2_1, .int .u16 a2_2] 27 (0, 0)) (by (with_reducible repeat (first | refine blk_drewN ?_ _ | refine blk_drew ?_ | refine blk_alloc ?_ _)); exact BK103.out) hb); have n4_ := Aside0.mk (below_step (by repeat (first | (with_reducible first | exact HB.out | apply below_alloc | apply pw_below_drewN | apply below_drew1 | refine below_set ?_ GE101.out | refine below_set ?_ GE102.out | refine below_set ?_ GE103.out) | exact HB.out)) hb); clear HO106; clear BK101; clear BK102; clear BK103; clear HB; have HO106 := n0_; have BK101 := n1_; have BK102 := n2_; have BK103 := n3_; have HB := n4_; clear n0_ n1_ n2_ n3_ n4_; (try clear hb); (try clear hb2); (try clear hk); (try clear hi)) | ((with_reducible refine gate_callee (f := 10) rfl ?_); refine goesL_ (some 16) rfl rfl Try.func10 (by kernel_rfl) rfl #[] rfl (by (try simp only [List.map_toArray, List.map_cons, List.map_nil]); first | done | rfl | (simp only [List.length_drop, List.length_take]; rfl)) ?_; (with_reducible refine (rowlocklaw10_fixed.calls  t108 _ A6.out).mono ?_); rintro e w20 ⟨rfl, hb⟩; refine ⟨_, rfl, ?_⟩; have n0_ := Aside0.mk (Kd.R_below (by (with_reducible repeat (first | apply Kd.R_alloc | apply Kd.R_drewN | apply Kd.R_drew)); exact HO106.out) hb); have n1_ := Aside0.mk (blk_below (g := gb101) (o := .cells #[.string a0_0, .int .u32 a0_1, .int .u16 a0_2] 27 (0, 0)) (by (with_reducible repeat (first | refine blk_drewN ?_ _ | refine blk_drew ?_ | refine blk_alloc ?_ _)); exact BK101.out) hb); have n2_ := Aside0.mk (blk_below (g := gb102) (o := .cells #[.string a1_0, .int .u32 a1_1, .int .u16 a1_2] 27 (0, 0)) (by (with_reducible repeat (first | refine blk_drewN ?_ _ | refine blk_drew ?_ | refine blk_alloc ?_ _)); exact BK102.out) hb); have n3_ := Aside0.mk (blk_below (g := gb103) (o := .cells #[.string a2_0, .int .u32 a2_1, .int .u16 a2_2] 27 (0, 0)) (by (with_reducible repeat (first | refine blk_drewN ?_ _ | refine blk_drew ?_ | refine blk_alloc ?_ _)); exact BK103.out) hb); have n4_ := Aside0.mk (below_step (by repeat (first | (with_reducible first | exact HB.out | apply below_alloc | apply pw_below_drewN | apply below_drew1 | refine below_set ?_ GE101.out | refine below_set ?_ GE102.out | refine below_set ?_ GE103.out) | exact HB.out)) hb); clear HO106; clear BK101; clear BK102; clear BK103; clear HB; have HO106 := n0_; have BK101 := n1_; have BK102 := n2_; have BK103 := n3_; have HB := n4_; clear n0_ n1_ n2_ n3_ n4_; (try clear hb); (try clear hb2); (try clear hk); (try clear hi)))
  go_ret
  exact ⟨by first | rfl | (simp [errW_none, errW_some] <;> rfl) | (simp [*, errW_none, errW_some] <;> rfl), by repeat (first | (with_reducible first | exact HB.out | apply below_alloc | apply pw_below_drewN | apply below_drew1 | refine below_set ?_ GE101.out | refine below_set ?_ GE102.out | refine below_set ?_ GE103.out) | exact HB.out)⟩
 ·replace c5 := Bool.eq_false_iff.mpr c5
  subst c5
  have H1 : ((leaf_Compare.f k a0_0 a0_1 a0_2 a1_0 a1_1 a1_2).bind fun t109 => ((leaf_Compare.f k a1_0 a1_1 a1_2 a2_0 a2_1 a2_2).bind fun t110 => ((leaf_Compare.f k a0_0 a0_1 a0_2 a2_0 a2_1 a2_2).bind fun t111 => ((rowlockref10_Less.f a0_0 a0_1 a0_2 a1_0 a1_1 a1_2).bind fun t112 => (if t112 = true then (rowlocklaw10_LeafCompare.j0 k t109 t110 t111 (-1) a0_0 a0_1 a0_2 a1_0 a1_1 a1_2) else (rowlocklaw10_LeafCompare.j0 k t109 t110 t111 0 a0_0 a0_1 a0_2 a1_0 a1_1 a1_2)))))) = some r := by rw [if_neg (show ¬ (false = true) by decide)] at H; exact H
  clear H
  have H := H1
  clear H1
  replace H := Option.bind_eq_some_iff.mp H
  obtain ⟨t109, A210, H⟩ := H
  replace H : ((leaf_Compare.f k a1_0 a1_1 a1_2 a2_0 a2_1 a2_2).bind fun t110 => ((leaf_Compare.f k a0_0 a0_1 a0_2 a2_0 a2_1 a2_2).bind fun t111 => ((rowlockref10_Less.f a0_0 a0_1 a0_2 a1_0 a1_1 a1_2).bind fun t112 => (if t112 = true then (rowlocklaw10_LeafCompare.j0 k t109 t110 t111 (-1) a0_0 a0_1 a0_2 a1_0 a1_1 a1_2) else (rowlocklaw10_LeafCompare.j0 k t109 t110 t111 0 a0_0 a0_1 a0_2 a1_0 a1_1 a1_2))))) = some r := H
  have A21 := Aside0.mk A210
  clear A210
  replace H := Option.bind_eq_some_iff.mp H
  obtain ⟨t110, A220, H⟩ := H
  replace H : ((leaf_Compare.f k a0_0 a0_1 a0_2 a2_0 a2_1 a2_2).bind fun t111 => ((rowlockref10_Less.f a0_0 a0_1 a0_2 a1_0 a1_1 a1_2).bind fun t112 => (if t112 = true then (rowlocklaw10_LeafCompare.j0 k t109 t110 t111 (-1) a0_0 a0_1 a0_2 a1_0 a1_1 a1_2) else (rowlocklaw10_LeafCompare.j0 k t109 t110 t111 0 a0_0 a0_1 a0_2 a1_0 a1_1 a1_2)))) = some r := H
  have A22 := Aside0.mk A220
  clear A220
  replace H := Option.bind_eq_some_iff.mp H
  obtain ⟨t111, A230, H⟩ := H
  replace H : ((rowlockref10_Less.f a0_0 a0_1 a0_2 a1_0 a1_1 a1_2).bind fun t112 => (if t112 = true then (rowlocklaw10_LeafCompare.j0 k t109 t110 t111 (-1) a0_0 a0_1 a0_2 a1_0 a1_1 a1_2) else (rowlocklaw10_LeafCompare.j0 k t109 t110 t111 0 a0_0 a0_1 a0_2 a1_0 a1_1 a1_2))) = some r := H
  have A23 := Aside0.mk A230
  clear A230
  replace H := Option.bind_eq_some_iff.mp H
  obtain ⟨t112, A240, H⟩ := H
  replace H : (if t112 = true then (rowlocklaw10_LeafCompare.j0 k t109 t110 t111 (-1) a0_0 a0_1 a0_2 a1_0 a1_1 a1_2) else (rowlocklaw10_LeafCompare.j0 k t109 t110 t111 0 a0_0 a0_1 a0_2 a1_0 a1_1 a1_2)) = some r := H
  have A24 := Aside0.mk A240
  clear A240
  have HC25 := Aside0.mk H
  clear H
  go_enter Try.func3, Try.ntmps3
  try go_wp2_with (first | ((with_reducible refine gate_dst (N := 3) rfl ?_); refine box_event ?hg (N := 3) ?hd (cs := #[.string a0_0, .int .u32 a0_1, .int .u16 a0_2]) (t := 27) ?hr ?_; (case hd => rfl); (case hg => rfl); (case hr => first | (go_simp; done) | (go_simp; rfl)); intro gb101 hg w26 hbox hb; have n0_ := Aside0.mk (below_step (by repeat (first | (with_reducible first | exact HB.out | apply below_alloc | apply pw_below_drewN | apply below_drew1) | exact HB.out)) hb); have n1_ := Aside0.mk (hbox); have n2_ := Aside0.mk ((by rw [hg]; exact (below_size (by repeat (first | (with_reducible first | exact HB.out | apply below_alloc | apply pw_below_drewN | apply below_drew1) | exact HB.out))) : w.heap.size ≤ gb101)); have n3_ := Aside0.mk ((by rw [hg]; exact (below_size (by repeat (first | (with_reducible first | exact HB.out | apply below_alloc | apply pw_below_drewN | apply below_drew1) | exact HB.out))) : w.heap.size ≤ gb101)); clear HB; have HB := n0_; have BK101 := n1_; have GW101 := n2_; have GE101 := n3_; clear n0_ n1_ n2_ n3_; clear hb hbox hg) | ((with_reducible refine gate_dst (N := 4) rfl ?_); refine box_event ?hg (N := 4) ?hd (cs := #[.string a1_0, .int .u32 a1_1, .int .u16 a1_2]) (t := 27) ?hr ?_; (case hd => rfl); (case hg => rfl); (case hr => first | (go_simp; done) | (go_simp; rfl)); intro gb102 hg w27 hbox hb; have n0_ := Aside0.mk (blk_below (g := gb101) (o := .cells #[.string a0_0, .int .u32 a0_1, .int .u16 a0_2] 27 (0, 0)) (by (with_reducible repeat (first | refine blk_drewN ?_ _ | refine blk_drew ?_ | refine blk_alloc ?_ _)); exact BK101.out) hb); have n1_ := Aside0.mk (below_step (by repeat (first | (with_reducible first | exact HB.out | apply below_alloc | apply pw_below_drewN | apply below_drew1 | refine below_set ?_ GE101.out) | exact HB.out)) hb); have n2_ := Aside0.mk (hbox); have n3_ := Aside0.mk ((by rw [hg]; exact (below_size (by repeat (first | (with_reducible first | exact HB.out | apply below_alloc | apply pw_below_drewN | apply below_drew1 | refine below_set ?_ GE101.out) | exact HB.out))) : w.heap.size ≤ gb102)); have n4_ := Aside0.mk ((by rw [hg]; exact (below_size (by repeat (first | (with_reducible first | exact HB.out | apply below_alloc | apply pw_below_drewN | apply below_drew1 | refine below_set ?_ GE101.out) | exact HB.out))) : w.heap.size ≤ gb102)); have n5_ := Aside0.mk ((by rw [hg]; exact Nat.ne_of_lt (blk_lt (g := gb101) (o := .cells #[.string a0_0, .int .u32 a0_1, .int .u16 a0_2] 27 (0, 0)) (by (with_reducible repeat (first | refine blk_drewN ?_ _ | refine blk_drew ?_ | refine blk_alloc ?_ _)); exact BK101.out)) : gb101 ≠ gb102)); have n6_ := Aside0.mk ((by rw [hg]; exact Nat.ne_of_gt (blk_lt (g := gb101) (o := .cells #[.string a0_0, .int .u32 a0_1, .int .u16 a0_2] 27 (0, 0)) (by (with_reducible repeat (first | refine blk_drewN ?_ _ | refine blk_drew ?_ | refine blk_alloc ?_ _)); exact BK101.out)) : gb102 ≠ gb101)); clear BK101; clear HB; have BK101 := n0_; have HB := n1_; have BK102 := n2_; have GW102 := n3_; have GE102 := n4_; have NB101_102 := n5_; have NB102_101 := n6_; clear n0_ n1_ n2_ n3_ n4_ n5_ n6_; clear hb hbox hg) | ((with_reducible refine gate_dst (N := 5) rfl ?_); refine box_event ?hg (N := 5) ?hd (cs := #[.string a2_0, .int .u32 a2_1, .int .u16 a2_2]) (t := 27) ?hr ?_; (case hd => rfl); (case hg => rfl); (case hr => first | (go_simp; done) | (go_simp; rfl)); intro gb103 hg w28 hbox hb; have n0_ := Aside0.mk (blk_below (g := gb101) (o := .cells #[.string a0_0, .int .u32 a0_1, .int .u16 a0_2] 27 (0, 0)) (by (with_reducible repeat (first | refine blk_drewN ?_ _ | refine blk_drew ?_ | refine blk_alloc ?_ _)); exact BK101.out) hb); have n1_ := Aside0.mk (blk_below (g := gb102) (o := .cells #[.string a1_0, .int .u32 a1_1, .int .u16 a1_2] 27 (0, 0)) (by (with_reducible repeat (first | refine blk_drewN ?_ _ | refine blk_drew ?_ | refine blk_alloc ?_ _)); exact BK102.out) hb); have n2_ := Aside0.mk (below_step (by repeat (first | (with_reducible first | exact HB.out | apply below_alloc | apply pw_below_drewN | apply below_drew1 | refine below_set ?_ GE101.out | refine below_set ?_ GE102.out) | exact HB.out)) hb); have n3_ := Aside0.mk (hbox); have n4_ := Aside0.mk ((by rw [hg]; exact (below_size (by repeat (first | (with_reducible first | exact HB.out | apply below_alloc | apply pw_below_drewN | apply below_drew1 | refine below_set ?_ GE101.out | refine below_set ?_ GE102.out) | exact HB.out))) : w.heap.size ≤ gb103)); have n5_ := Aside0.mk ((by rw [hg]; exact (below_size (by repeat (first | (with_reducible first | exact HB.out | apply below_alloc | apply pw_below_drewN | apply below_drew1 | refine below_set ?_ GE101.out | refine below_set ?_ GE102.out) | exact HB.out))) : w.heap.size ≤ gb103)); have n6_ := Aside0.mk ((by rw [hg]; exact Nat.ne_of_lt (blk_lt (g := gb101) (o := .cells #[.string a0_0, .int .u32 a0_1, .int .u16 a0_2] 27 (0, 0)) (by (with_reducible repeat (first | refine blk_drewN ?_ _ | refine blk_drew ?_ | refine blk_alloc ?_ _)); exact BK101.out)) : gb101 ≠ gb103)); have n7_ := Aside0.mk ((by rw [hg]; exact Nat.ne_of_gt (blk_lt (g := gb101) (o := .cells #[.string a0_0, .int .u32 a0_1, .int .u16 a0_2] 27 (0, 0)) (by (with_reducible repeat (first | refine blk_drewN ?_ _ | refine blk_drew ?_ | refine blk_alloc ?_ _)); exact BK101.out)) : gb103 ≠ gb101)); have n8_ := Aside0.mk ((by rw [hg]; exact Nat.ne_of_lt (blk_lt (g := gb102) (o := .cells #[.string a1_0, .int .u32 a1_1, .int .u16 a1_2] 27 (0, 0)) (by (with_reducible repeat (first | refine blk_drewN ?_ _ | refine blk_drew ?_ | refine blk_alloc ?_ _)); exact BK102.out)) : gb102 ≠ gb103)); have n9_ := Aside0.mk ((by rw [hg]; exact Nat.ne_of_gt (blk_lt (g := gb102) (o := .cells #[.string a1_0, .int .u32 a1_1, .int .u16 a1_2] 27 (0, 0)) (by (with_reducible repeat (first | refine blk_drewN ?_ _ | refine blk_drew ?_ | refine blk_alloc ?_ _)); exact BK102.out)) : gb103 ≠ gb102)); clear BK101; clear BK102; clear HB; have BK101 := n0_; have BK102 := n1_; have HB := n2_; have BK103 := n3_; have GW103 := n4_; have GE103 := n5_; have NB101_103 := n6_; have NB103_101 := n7_; have NB102_103 := n8_; have NB103_102 := n9_; clear n0_ n1_ n2_ n3_ n4_ n5_ n6_ n7_ n8_ n9_; clear hb hbox hg; have hnb29 := NB101_102.out; have hnc29 := NB102_101.out; have hnb30 := NB101_103.out; have hnc30 := NB103_101.out; have hcz31_0 : w28.cell? ⟨gb101, 0, none⟩ = some (.string a0_0) := (blk_cell BK101.out 0).trans rfl; have hcz31_1 : w28.cell? ⟨gb101, 1, none⟩ = some (.int .u32 a0_1) := (blk_cell BK101.out 1).trans rfl; have hcz31_2 : w28.cell? ⟨gb101, 2, none⟩ = some (.int .u16 a0_2) := (blk_cell BK101.out 2).trans rfl; have hfz31_0 := blk_frozen BK101.out 0; have hfz31_1 := blk_frozen BK101.out 1; have hfz31_2 := blk_frozen BK101.out 2; have hnb32 := NB102_103.out; have hnc32 := NB103_102.out; have hcz33_0 : w28.cell? ⟨gb102, 0, none⟩ = some (.string a1_0) := (blk_cell BK102.out 0).trans rfl; have hcz33_1 : w28.cell? ⟨gb102, 1, none⟩ = some (.int .u32 a1_1) := (blk_cell BK102.out 1).trans rfl; have hcz33_2 : w28.cell? ⟨gb102, 2, none⟩ = some (.int .u16 a1_2) := (blk_cell BK102.out 2).trans rfl; have hfz33_0 := blk_frozen BK102.out 0; have hfz33_1 := blk_frozen BK102.out 1; have hfz33_2 := blk_frozen BK102.out 2; have hcz34_0 : w28.cell? ⟨gb103, 0, none⟩ = some (.string a2_0) := (blk_cell BK103.out 0).trans rfl; have hcz34_1 : w28.cell? ⟨gb103, 1, none⟩ = some (.int .u32 a2_1) := (blk_cell BK103.out 1).trans rfl; have hcz34_2 : w28.cell? ⟨gb103, 2, none⟩ = some (.int .u16 a2_2) := (blk_cell BK103.out 2).trans rfl; have hfz34_0 := blk_frozen BK103.out 0; have hfz34_1 := blk_frozen BK103.out 1; have hfz34_2 := blk_frozen BK103.out 2) | ((with_reducible refine gate_dst (N := 14) rfl ?_); refine Kd.R_lit k27 _ 27 ?hg (N := 14) ?hd (xs := ([(⟨a0_0, (⟨a0_1, a0_2⟩ : S25)⟩ : S27), (⟨a1_0, (⟨a1_1, a1_2⟩ : S25)⟩ : S27), (⟨a2_0, (⟨a2_1, a2_2⟩ : S25)⟩ : S27)] : List (S27))) (inner := [.string a0_0, .int .u32 a0_1, .int .u16 a0_2, .string a1_0, .int .u32 a1_1, .int .u16 a1_2, .string a2_0, .int .u32 a2_1, .int .u16 a2_2]) (ok := fun _ => True) (okp := fun _ => True) ?hr ?hp (fun _ hk => hk) trivial (Below.refl _ _) (Nat.le_refl _) (by simp) ?_; (case hd => rfl); (case hg => rfl); (case hr => first | (go_simp; done) | (go_simp; rfl)); (case hp => exact (Reps.c3 (show Kd.M k27 _ _ _ (⟨a0_0, (⟨a0_1, a0_2⟩ : S25)⟩ : S27) [.string a0_0, .int .u32 a0_1, .int .u16 a0_2] from (k27_mkM _ _ _ (⟨a0_0, (⟨a0_1, a0_2⟩ : S25)⟩ : S27) )) (Reps.c3 (show Kd.M k27 _ _ _ (⟨a1_0, (⟨a1_1, a1_2⟩ : S25)⟩ : S27) [.string a1_0, .int .u32 a1_1, .int .u16 a1_2] from (k27_mkM _ _ _ (⟨a1_0, (⟨a1_1, a1_2⟩ : S25)⟩ : S27) )) (Reps.c3 (show Kd.M k27 _ _ _ (⟨a2_0, (⟨a2_1, a2_2⟩ : S25)⟩ : S27) [.string a2_0, .int .u32 a2_1, .int .u16 a2_2] from (k27_mkM _ _ _ (⟨a2_0, (⟨a2_1, a2_2⟩ : S25)⟩ : S27) )) (Reps.none _ _))))); intro v105 w35 ho36 hb hg_ hnew_; clear hg_ hnew_; (first | rw [← Ny104.out] at ho36 | (simp only [Int.reduceToNat] at ho36; rw [← Ny104.out] at ho36)); have n0_ := Aside0.mk (Kd.R_lower (Kd.R_newB (Kd.R_newB (Kd.R_newB ho36 (g := gb101) (o := .cells #[.string a0_0, .int .u32 a0_1, .int .u16 a0_2] 27 (0, 0)) (by (with_reducible repeat (first | refine blk_drewN ?_ _ | refine blk_drew ?_ | refine blk_alloc ?_ _)); exact BK101.out)) (g := gb102) (o := .cells #[.string a1_0, .int .u32 a1_1, .int .u16 a1_2] 27 (0, 0)) (by (with_reducible repeat (first | refine blk_drewN ?_ _ | refine blk_drew ?_ | refine blk_alloc ?_ _)); exact BK102.out)) (g := gb103) (o := .cells #[.string a2_0, .int .u32 a2_1, .int .u16 a2_2] 27 (0, 0)) (by (with_reducible repeat (first | refine blk_drewN ?_ _ | refine blk_drew ?_ | refine blk_alloc ?_ _)); exact BK103.out)) (below_size (by repeat (first | (with_reducible first | exact HB.out | apply below_alloc | apply pw_below_drewN | apply below_drew1 | refine below_set ?_ GE101.out | refine below_set ?_ GE102.out | refine below_set ?_ GE103.out) | exact HB.out)))); have n1_ := Aside0.mk (blk_below (g := gb101) (o := .cells #[.string a0_0, .int .u32 a0_1, .int .u16 a0_2] 27 (0, 0)) (by (with_reducible repeat (first | refine blk_drewN ?_ _ | refine blk_drew ?_ | refine blk_alloc ?_ _)); exact BK101.out) hb); have n2_ := Aside0.mk (blk_below (g := gb102) (o := .cells #[.string a1_0, .int .u32 a1_1, .int .u16 a1_2] 27 (0, 0)) (by (with_reducible repeat (first | refine blk_drewN ?_ _ | refine blk_drew ?_ | refine blk_alloc ?_ _)); exact BK102.out) hb); have n3_ := Aside0.mk (blk_below (g := gb103) (o := .cells #[.string a2_0, .int .u32 a2_1, .int .u16 a2_2] 27 (0, 0)) (by (with_reducible repeat (first | refine blk_drewN ?_ _ | refine blk_drew ?_ | refine blk_alloc ?_ _)); exact BK103.out) hb); have n4_ := Aside0.mk (below_step (by repeat (first | (with_reducible first | exact HB.out | apply below_alloc | apply pw_below_drewN | apply below_drew1 | refine below_set ?_ GE101.out | refine below_set ?_ GE102.out | refine below_set ?_ GE103.out) | exact HB.out)) hb); clear BK101; clear BK102; clear BK103; clear HB; have HO106 := n0_; have BK101 := n1_; have BK102 := n2_; have BK103 := n3_; have HB := n4_; clear n0_ n1_ n2_ n3_ n4_; clear hb ho36; obtain ⟨Ao37, co37, eo37⟩ := Kd.R_slice HO106.out; subst eo37) | ((with_reducible refine gate_callee (f := 9) rfl ?_); refine goesL_ (some 15) rfl rfl Try.func9 (by kernel_rfl) rfl #[.slice Ao37 y104.length co37] rfl (by (try simp only [List.map_toArray, List.map_cons, List.map_nil]); first | done | rfl | (simp only [List.length_drop, List.length_take]; rfl)) ?_; (with_reducible refine (rowlockref10_Great.calls k _ _ y104 false _ ?side1 ?side2 A4.out).mono ?_); (case side1 => repeat (first | exact (Kd.R_reads' HO106.out).2.2 | (with_reducible refine Kd.C_alloc ?_ _) | (with_reducible refine Kd.C_drewN ?_ _) | (with_reducible refine Kd.C_drew ?_))); (case side2 => exact (Kd.R_reads' HO106.out).2.1); rintro e w38 ⟨rfl, hb⟩; refine ⟨_, rfl, ?_⟩; have n0_ := Aside0.mk (Kd.R_below (by (with_reducible repeat (first | apply Kd.R_alloc | apply Kd.R_drewN | apply Kd.R_drew)); exact HO106.out) hb); have n1_ := Aside0.mk (blk_below (g := gb101) (o := .cells #[.string a0_0, .int .u32 a0_1, .int .u16 a0_2] 27 (0, 0)) (by (with_reducible repeat (first | refine blk_drewN ?_ _ | refine blk_drew ?_ | refine blk_alloc ?_ _)); exact BK101.out) hb); have n2_ := Aside0.mk (blk_below (g := gb102) (o := .cells #[.string a1_0, .int .u32 a1_1, .int .u16 a1_2] 27 (0, 0)) (by (with_reducible repeat (first | refine blk_drewN ?_ _ | refine blk_drew ?_ | refine blk_alloc ?_ _)); exact BK102.out) hb); have n3_ := Aside0.mk (blk_below (g := gb103) (o := .cells #[.string a2_0, .int .u32 a2_1, .int .u16 a2_2] 27 (0, 0)) (by (with_reducible repeat (first | refine blk_drewN ?_ _ | refine blk_drew ?_ | refine blk_alloc ?_ _)); exact BK103.out) hb); have n4_ := Aside0.mk (below_step (by repeat (first | (with_reducible first | exact HB.out | apply below_alloc | apply pw_below_drewN | apply below_drew1 | refine below_set ?_ GE101.out | refine below_set ?_ GE102.out | refine below_set ?_ GE103.out) | exact HB.out)) hb); clear HO106; clear BK101; clear BK102; clear BK103; clear HB; have HO106 := n0_; have BK101 := n1_; have BK102 := n2_; have BK103 := n3_; have HB := n4_; clear n0_ n1_ n2_ n3_ n4_; (try clear hb); (try clear hb2); (try clear hk); (try clear hi)))
  have n0_ := Aside0.mk (Kd.R_drew HO106.out)
  have n1_ := Aside0.mk (blk_drew BK101.out)
  have n2_ := Aside0.mk (blk_drew BK102.out)
  have n3_ := Aside0.mk (blk_drew BK103.out)
  have n4_ := Aside0.mk (below_drew1 HB.out)
  clear HO106
  clear BK101
  clear BK102
  clear BK103
  clear HB
  have HO106 := n0_
  have BK101 := n1_
  have BK102 := n2_
  have BK103 := n3_
  have HB := n4_
  clear n0_ n1_ n2_ n3_ n4_
  refine start_ (n := 12) (S := fun w' => w'.cell? ⟨gb101, 0, none⟩ = some (.string a0_0) ∧ w'.cell? ⟨gb101, 1, none⟩ = some (.int .u32 a0_1) ∧ w'.cell? ⟨gb101, 2, none⟩ = some (.int .u16 a0_2) ∧ w'.cell? ⟨gb102, 0, none⟩ = some (.string a1_0) ∧ w'.cell? ⟨gb102, 1, none⟩ = some (.int .u32 a1_1) ∧ w'.cell? ⟨gb102, 2, none⟩ = some (.int .u16 a1_2) ∧ w'.cell? ⟨gb103, 0, none⟩ = some (.string a2_0) ∧ w'.cell? ⟨gb103, 1, none⟩ = some (.int .u32 a2_1) ∧ w'.cell? ⟨gb103, 2, none⟩ = some (.int .u16 a2_2)) (ds := []) #[false, false, false, false, false, false, false, false, false, false, false, false] (by kernel_rfl) rfl rfl ⟨(blk_cell BK101.out 0).trans rfl, (blk_cell BK101.out 1).trans rfl, (blk_cell BK101.out 2).trans rfl, (blk_cell BK102.out 0).trans rfl, (blk_cell BK102.out 1).trans rfl, (blk_cell BK102.out 2).trans rfl, (blk_cell BK103.out 0).trans rfl, (blk_cell BK103.out 1).trans rfl, (blk_cell BK103.out 2).trans rfl⟩ (fun hHeld => ?_); refine with_tabW rowlocklaw10_LeafCompare.tab3 rowlocklaw10_LeafCompare.bits3 (fun HT_ HW_ => ?_)
  generalize w38.drew = w39 at HO106 BK101 BK102 BK103 HB hHeld ⊢
  refine take_ (i := 0) (N := some 17) (v := ?_) (a' := ?_) #[true, false, false, false, false, false, false, false, false, false, false, false] rfl rfl (take_ofW HT_.out HW_.out (by kernel_rfl)) (fun _ _ _ h => h) (Or.inl ⟨by rfl, ?_⟩) hHeld ?_ ?_
  rotate_left
  ·rintro w' ⟨s0, s1, s2, s3, s4, s5, s6, s7, s8⟩
   go_simp
   with_reducible rfl
  rotate_left
  ·simp only [Act.put, List.setIfInBounds_toArray, List.set_cons_zero, List.set_cons_succ, i64_w, i32_w]
   rfl
  refine take_ (i := 1) (N := some 18) (v := ?_) (a' := ?_) #[true, true, false, false, false, false, false, false, false, false, false, false] rfl rfl (take_ofW HT_.out HW_.out (by kernel_rfl)) (fun _ _ _ h => h) (Or.inl ⟨by rfl, ?_⟩) hHeld ?_ ?_
  rotate_left
  ·rintro w' ⟨s0, s1, s2, s3, s4, s5, s6, s7, s8⟩
   go_simp
   with_reducible rfl
  rotate_left
  ·simp only [Act.put, List.setIfInBounds_toArray, List.set_cons_zero, List.set_cons_succ, i64_w, i32_w]
   rfl
  refine take_ (i := 3) (N := some 20) (v := ?_) (a' := ?_) #[true, true, false, true, false, false, false, false, false, false, false, false] rfl rfl (take_ofW HT_.out HW_.out (by kernel_rfl)) (fun _ _ _ h => h) (Or.inl ⟨by rfl, ?_⟩) hHeld ?_ ?_
  rotate_left
  ·rintro w' ⟨s0, s1, s2, s3, s4, s5, s6, s7, s8⟩
   go_simp
   with_reducible rfl
  rotate_left
  ·simp only [Act.put, List.setIfInBounds_toArray, List.set_cons_zero, List.set_cons_succ, i64_w, i32_w]
   rfl
  refine take_ (i := 4) (N := some 21) (v := ?_) (a' := ?_) #[true, true, false, true, true, false, false, false, false, false, false, false] rfl rfl (take_ofW HT_.out HW_.out (by kernel_rfl)) (fun _ _ _ h => h) (Or.inl ⟨by rfl, ?_⟩) hHeld ?_ ?_
  rotate_left
  ·rintro w' ⟨s0, s1, s2, s3, s4, s5, s6, s7, s8⟩
   go_simp
   with_reducible rfl
  rotate_left
  ·simp only [Act.put, List.setIfInBounds_toArray, List.set_cons_zero, List.set_cons_succ, i64_w, i32_w]
   rfl
  refine take_ (i := 6) (N := some 23) (v := ?_) (a' := ?_) #[true, true, false, true, true, false, true, false, false, false, false, false] rfl rfl (take_ofW HT_.out HW_.out (by kernel_rfl)) (fun _ _ _ h => h) (Or.inl ⟨by rfl, ?_⟩) hHeld ?_ ?_
  rotate_left
  ·rintro w' ⟨s0, s1, s2, s3, s4, s5, s6, s7, s8⟩
   go_simp
   with_reducible rfl
  rotate_left
  ·simp only [Act.put, List.setIfInBounds_toArray, List.set_cons_zero, List.set_cons_succ, i64_w, i32_w]
   rfl
  refine take_ (i := 7) (N := some 24) (v := ?_) (a' := ?_) #[true, true, false, true, true, false, true, true, false, false, false, false] rfl rfl (take_ofW HT_.out HW_.out (by kernel_rfl)) (fun _ _ _ h => h) (Or.inl ⟨by rfl, ?_⟩) hHeld ?_ ?_
  rotate_left
  ·rintro w' ⟨s0, s1, s2, s3, s4, s5, s6, s7, s8⟩
   go_simp
   with_reducible rfl
  rotate_left
  ·simp only [Act.put, List.setIfInBounds_toArray, List.set_cons_zero, List.set_cons_succ, i64_w, i32_w]
   rfl
  refine one_ (i := 2) (N := some 19) #[true, true, true, true, true, false, true, true, false, false, false, false] rfl rfl (one_of HT_.out (by kernel_rfl)) (by decide) (fun K hK => ?_)
  refine goes_ Try.func11 (by kernel_rfl) rfl #[.agg #[.string a0_0, .int .u32 a0_1, .int .u16 a0_2], .agg #[.string a1_0, .int .u32 a1_1, .int .u16 a1_2]] (by rfl) rfl rfl (by (try simp only [List.map_toArray, List.map_cons, List.map_nil]); first | done | rfl | (simp only [List.length_drop, List.length_take]; rfl)) ?_
  with_reducible refine (leaf_Compare.calls k a0_0 a0_1 a0_2 a1_0 a1_1 a1_2 t109 _ A21.out).mono ?_
  rintro e w40 ⟨rfl, hb⟩
  refine ⟨_, rfl, ?_⟩
  have n0_ := Aside0.mk (Kd.R_below (by (with_reducible repeat (first | apply Kd.R_alloc | apply Kd.R_drewN | apply Kd.R_drew)); exact HO106.out) hb)
  have n1_ := Aside0.mk (blk_below (g := gb101) (o := .cells #[.string a0_0, .int .u32 a0_1, .int .u16 a0_2] 27 (0, 0)) (by (with_reducible repeat (first | refine blk_drewN ?_ _ | refine blk_drew ?_ | refine blk_alloc ?_ _)); exact BK101.out) hb)
  have n2_ := Aside0.mk (blk_below (g := gb102) (o := .cells #[.string a1_0, .int .u32 a1_1, .int .u16 a1_2] 27 (0, 0)) (by (with_reducible repeat (first | refine blk_drewN ?_ _ | refine blk_drew ?_ | refine blk_alloc ?_ _)); exact BK102.out) hb)
  have n3_ := Aside0.mk (blk_below (g := gb103) (o := .cells #[.string a2_0, .int .u32 a2_1, .int .u16 a2_2] 27 (0, 0)) (by (with_reducible repeat (first | refine blk_drewN ?_ _ | refine blk_drew ?_ | refine blk_alloc ?_ _)); exact BK103.out) hb)
  have n4_ := Aside0.mk (below_step (by repeat (first | (with_reducible first | exact HB.out | apply below_alloc | apply pw_below_drewN | apply below_drew1 | refine below_set ?_ GE101.out | refine below_set ?_ GE102.out | refine below_set ?_ GE103.out) | exact HB.out)) hb)
  clear HO106
  clear BK101
  clear BK102
  clear BK103
  clear HB
  have HO106 := n0_
  have BK101 := n1_
  have BK102 := n2_
  have BK103 := n3_
  have HB := n4_
  clear n0_ n1_ n2_ n3_ n4_
  (try clear hb)
  (try clear hb2)
  (try clear hk)
  (try clear hi)
  refine hK.out _ _ ⟨(blk_cell BK101.out 0).trans rfl, (blk_cell BK101.out 1).trans rfl, (blk_cell BK101.out 2).trans rfl, (blk_cell BK102.out 0).trans rfl, (blk_cell BK102.out 1).trans rfl, (blk_cell BK102.out 2).trans rfl, (blk_cell BK103.out 0).trans rfl, (blk_cell BK103.out 1).trans rfl, (blk_cell BK103.out 2).trans rfl⟩ (fun hHeld => ?_)
  clear hK K
  refine norm_ (a' := ?_) ?_ ?_
  rotate_left
  ·show Act.put _ (some 19) _ = _
   simp only [Act.put, List.setIfInBounds_toArray, List.set_cons_zero, List.set_cons_succ, i64_w, i32_w]
   rfl
  refine one_ (i := 5) (N := some 22) #[true, true, true, true, true, true, true, true, false, false, false, false] rfl rfl (one_of HT_.out (by kernel_rfl)) (by decide) (fun K hK => ?_)
  refine goes_ Try.func11 (by kernel_rfl) rfl #[.agg #[.string a1_0, .int .u32 a1_1, .int .u16 a1_2], .agg #[.string a2_0, .int .u32 a2_1, .int .u16 a2_2]] (by rfl) rfl rfl (by (try simp only [List.map_toArray, List.map_cons, List.map_nil]); first | done | rfl | (simp only [List.length_drop, List.length_take]; rfl)) ?_
  with_reducible refine (leaf_Compare.calls k a1_0 a1_1 a1_2 a2_0 a2_1 a2_2 t110 _ A22.out).mono ?_
  rintro e w41 ⟨rfl, hb⟩
  refine ⟨_, rfl, ?_⟩
  have n0_ := Aside0.mk (Kd.R_below (by (with_reducible repeat (first | apply Kd.R_alloc | apply Kd.R_drewN | apply Kd.R_drew)); exact HO106.out) hb)
  have n1_ := Aside0.mk (blk_below (g := gb101) (o := .cells #[.string a0_0, .int .u32 a0_1, .int .u16 a0_2] 27 (0, 0)) (by (with_reducible repeat (first | refine blk_drewN ?_ _ | refine blk_drew ?_ | refine blk_alloc ?_ _)); exact BK101.out) hb)
  have n2_ := Aside0.mk (blk_below (g := gb102) (o := .cells #[.string a1_0, .int .u32 a1_1, .int .u16 a1_2] 27 (0, 0)) (by (with_reducible repeat (first | refine blk_drewN ?_ _ | refine blk_drew ?_ | refine blk_alloc ?_ _)); exact BK102.out) hb)
  have n3_ := Aside0.mk (blk_below (g := gb103) (o := .cells #[.string a2_0, .int .u32 a2_1, .int .u16 a2_2] 27 (0, 0)) (by (with_reducible repeat (first | refine blk_drewN ?_ _ | refine blk_drew ?_ | refine blk_alloc ?_ _)); exact BK103.out) hb)
  have n4_ := Aside0.mk (below_step (by repeat (first | (with_reducible first | exact HB.out | apply below_alloc | apply pw_below_drewN | apply below_drew1 | refine below_set ?_ GE101.out | refine below_set ?_ GE102.out | refine below_set ?_ GE103.out) | exact HB.out)) hb)
  clear HO106
  clear BK101
  clear BK102
  clear BK103
  clear HB
  have HO106 := n0_
  have BK101 := n1_
  have BK102 := n2_
  have BK103 := n3_
  have HB := n4_
  clear n0_ n1_ n2_ n3_ n4_
  (try clear hb)
  (try clear hb2)
  (try clear hk)
  (try clear hi)
  refine hK.out _ _ ⟨(blk_cell BK101.out 0).trans rfl, (blk_cell BK101.out 1).trans rfl, (blk_cell BK101.out 2).trans rfl, (blk_cell BK102.out 0).trans rfl, (blk_cell BK102.out 1).trans rfl, (blk_cell BK102.out 2).trans rfl, (blk_cell BK103.out 0).trans rfl, (blk_cell BK103.out 1).trans rfl, (blk_cell BK103.out 2).trans rfl⟩ (fun hHeld => ?_)
  clear hK K
  refine norm_ (a' := ?_) ?_ ?_
  rotate_left
  ·show Act.put _ (some 22) _ = _
   simp only [Act.put, List.setIfInBounds_toArray, List.set_cons_zero, List.set_cons_succ, i64_w, i32_w]
   rfl
  refine one_ (i := 8) (N := some 25) #[true, true, true, true, true, true, true, true, true, false, false, false] rfl rfl (one_of HT_.out (by kernel_rfl)) (by decide) (fun K hK => ?_)
  refine goes_ Try.func11 (by kernel_rfl) rfl #[.agg #[.string a0_0, .int .u32 a0_1, .int .u16 a0_2], .agg #[.string a2_0, .int .u32 a2_1, .int .u16 a2_2]] (by rfl) rfl rfl (by (try simp only [List.map_toArray, List.map_cons, List.map_nil]); first | done | rfl | (simp only [List.length_drop, List.length_take]; rfl)) ?_
  with_reducible refine (leaf_Compare.calls k a0_0 a0_1 a0_2 a2_0 a2_1 a2_2 t111 _ A23.out).mono ?_
  rintro e w42 ⟨rfl, hb⟩
  refine ⟨_, rfl, ?_⟩
  have n0_ := Aside0.mk (Kd.R_below (by (with_reducible repeat (first | apply Kd.R_alloc | apply Kd.R_drewN | apply Kd.R_drew)); exact HO106.out) hb)
  have n1_ := Aside0.mk (blk_below (g := gb101) (o := .cells #[.string a0_0, .int .u32 a0_1, .int .u16 a0_2] 27 (0, 0)) (by (with_reducible repeat (first | refine blk_drewN ?_ _ | refine blk_drew ?_ | refine blk_alloc ?_ _)); exact BK101.out) hb)
  have n2_ := Aside0.mk (blk_below (g := gb102) (o := .cells #[.string a1_0, .int .u32 a1_1, .int .u16 a1_2] 27 (0, 0)) (by (with_reducible repeat (first | refine blk_drewN ?_ _ | refine blk_drew ?_ | refine blk_alloc ?_ _)); exact BK102.out) hb)
  have n3_ := Aside0.mk (blk_below (g := gb103) (o := .cells #[.string a2_0, .int .u32 a2_1, .int .u16 a2_2] 27 (0, 0)) (by (with_reducible repeat (first | refine blk_drewN ?_ _ | refine blk_drew ?_ | refine blk_alloc ?_ _)); exact BK103.out) hb)
  have n4_ := Aside0.mk (below_step (by repeat (first | (with_reducible first | exact HB.out | apply below_alloc | apply pw_below_drewN | apply below_drew1 | refine below_set ?_ GE101.out | refine below_set ?_ GE102.out | refine below_set ?_ GE103.out) | exact HB.out)) hb)
  clear HO106
  clear BK101
  clear BK102
  clear BK103
  clear HB
  have HO106 := n0_
  have BK101 := n1_
  have BK102 := n2_
  have BK103 := n3_
  have HB := n4_
  clear n0_ n1_ n2_ n3_ n4_
  (try clear hb)
  (try clear hb2)
  (try clear hk)
  (try clear hi)
  refine hK.out _ _ ⟨(blk_cell BK101.out 0).trans rfl, (blk_cell BK101.out 1).trans rfl, (blk_cell BK101.out 2).trans rfl, (blk_cell BK102.out 0).trans rfl, (blk_cell BK102.out 1).trans rfl, (blk_cell BK102.out 2).trans rfl, (blk_cell BK103.out 0).trans rfl, (blk_cell BK103.out 1).trans rfl, (blk_cell BK103.out 2).trans rfl⟩ (fun hHeld => ?_)
  clear hK K
  refine norm_ (a' := ?_) ?_ ?_
  rotate_left
  ·show Act.put _ (some 25) _ = _
   simp only [Act.put, List.setIfInBounds_toArray, List.set_cons_zero, List.set_cons_succ, i64_w, i32_w]
   rfl
  refine pure_ (i := 9) (N := some 7) (v := ?_) (a' := ?_) #[true, true, true, true, true, true, true, true, true, true, false, false] rfl rfl (any_of HT_.out (by kernel_rfl)) (fun _ _ _ h => h) (Or.inl ⟨by rfl, ?_⟩) ?_ ?_
  rotate_left
  ·intro w'
   go_simp
   with_reducible rfl
  rotate_left
  ·simp only [Act.put, List.setIfInBounds_toArray, List.set_cons_zero, List.set_cons_succ, i64_w, i32_w]
   rfl
  refine pure_ (i := 10) (N := some 8) (v := ?_) (a' := ?_) #[true, true, true, true, true, true, true, true, true, true, true, false] rfl rfl (any_of HT_.out (by kernel_rfl)) (fun _ _ _ h => h) (Or.inl ⟨by rfl, ?_⟩) ?_ ?_
  rotate_left
  ·intro w'
   go_simp
   with_reducible rfl
  rotate_left
  ·simp only [Act.put, List.setIfInBounds_toArray, List.set_cons_zero, List.set_cons_succ, i64_w, i32_w]
   rfl
  refine pure_ (i := 11) (N := some 9) (v := ?_) (a' := ?_) #[true, true, true, true, true, true, true, true, true, true, true, true] rfl rfl (any_of HT_.out (by kernel_rfl)) (fun _ _ _ h => h) (Or.inl ⟨by rfl, ?_⟩) ?_ ?_
  rotate_left
  ·intro w'
   go_simp
   with_reducible rfl
  rotate_left
  ·simp only [Act.put, List.setIfInBounds_toArray, List.set_cons_zero, List.set_cons_succ, i64_w, i32_w]
   rfl
  refine done_ (done_of HT_.out (by kernel_rfl)) ?_
  have hcz43_0 : w42.cell? ⟨gb101, 0, none⟩ = some (.string a0_0) := (blk_cell BK101.out 0).trans rfl
  have hcz43_1 : w42.cell? ⟨gb101, 1, none⟩ = some (.int .u32 a0_1) := (blk_cell BK101.out 1).trans rfl
  have hcz43_2 : w42.cell? ⟨gb101, 2, none⟩ = some (.int .u16 a0_2) := (blk_cell BK101.out 2).trans rfl
  have hfz43_0 := blk_frozen BK101.out 0
  have hfz43_1 := blk_frozen BK101.out 1
  have hfz43_2 := blk_frozen BK101.out 2
  have hcz44_0 : w42.cell? ⟨gb102, 0, none⟩ = some (.string a1_0) := (blk_cell BK102.out 0).trans rfl
  have hcz44_1 : w42.cell? ⟨gb102, 1, none⟩ = some (.int .u32 a1_1) := (blk_cell BK102.out 1).trans rfl
  have hcz44_2 : w42.cell? ⟨gb102, 2, none⟩ = some (.int .u16 a1_2) := (blk_cell BK102.out 2).trans rfl
  have hfz44_0 := blk_frozen BK102.out 0
  have hfz44_1 := blk_frozen BK102.out 1
  have hfz44_2 := blk_frozen BK102.out 2
  go_upto_if 28 with (first | ((with_reducible refine gate_callee (f := 12) rfl ?_); refine goesL_ (some 28) rfl rfl Try.func12 (by kernel_rfl) rfl #[.agg #[.string a0_0, .int .u32 a0_1, .int .u16 a0_2], .agg #[.string a1_0, .int .u32 a1_1, .int .u16 a1_2]] rfl (by (try simp only [List.map_toArray, List.map_cons, List.map_nil]); first | done | rfl | (simp only [List.length_drop, List.length_take]; rfl)) ?_; (with_reducible refine (rowlockref10_Less.calls a0_0 a0_1 a0_2 a1_0 a1_1 a1_2 t112 _ A24.out).mono ?_); rintro e w45 ⟨rfl, hb⟩; refine ⟨_, rfl, ?_⟩; have n0_ := Aside0.mk (Kd.R_below (by (with_reducible repeat (first | apply Kd.R_alloc | apply Kd.R_drewN | apply Kd.R_drew)); exact HO106.out) hb); have n1_ := Aside0.mk (blk_below (g := gb101) (o := .cells #[.string a0_0, .int .u32 a0_1, .int .u16 a0_2] 27 (0, 0)) (by (with_reducible repeat (first | refine blk_drewN ?_ _ | refine blk_drew ?_ | refine blk_alloc ?_ _)); exact BK101.out) hb); have n2_ := Aside0.mk (blk_below (g := gb102) (o := .cells #[.string a1_0, .int .u32 a1_1, .int .u16 a1_2] 27 (0, 0)) (by (with_reducible repeat (first | refine blk_drewN ?_ _ | refine blk_drew ?_ | refine blk_alloc ?_ _)); exact BK102.out) hb); have n3_ := Aside0.mk (blk_below (g := gb103) (o := .cells #[.string a2_0, .int .u32 a2_1, .int .u16 a2_2] 27 (0, 0)) (by (with_reducible repeat (first | refine blk_drewN ?_ _ | refine blk_drew ?_ | refine blk_alloc ?_ _)); exact BK103.out) hb); have n4_ := Aside0.mk (below_step (by repeat (first | (with_reducible first | exact HB.out | apply below_alloc | apply pw_below_drewN | apply below_drew1 | refine below_set ?_ GE101.out | refine below_set ?_ GE102.out | refine below_set ?_ GE103.out) | exact HB.out)) hb); clear HO106; clear BK101; clear BK102; clear BK103; clear HB; have HO106 := n0_; have BK101 := n1_; have BK102 := n2_; have BK103 := n3_; have HB := n4_; clear n0_ n1_ n2_ n3_ n4_; (try clear hb); (try clear hb2); (try clear hk); (try clear hi)))
  (try simp only [Act.put, List.setIfInBounds_toArray, List.set_cons_zero, List.set_cons_succ])
  go_cut [10] (fun v10 wc => ∃ (kq : Nat) (x10_24 : Int), v10 = .int .i64 x10_24 ∧ Aside0 (rowlocklaw10_LeafCompare.j0 kq t109 t110 t111 x10_24 a0_0 a0_1 a0_2 a1_0 a1_1 a1_2 = some r) ∧ Aside0 (kq ≤ k) ∧ Aside0 (wc.heap[gb101]? = some (.cells #[.string a0_0, .int .u32 a0_1, .int .u16 a0_2] 27 (0, 0))) ∧ Aside0 (wc.heap[gb102]? = some (.cells #[.string a1_0, .int .u32 a1_1, .int .u16 a1_2] 27 (0, 0))) ∧ Aside0 (wc.heap[gb103]? = some (.cells #[.string a2_0, .int .u32 a2_1, .int .u16 a2_2] 27 (0, 0))) ∧ Aside0 (Below w.heap.size w wc))
  case first =>
   have H := HC25.out
   clear HC25
   by_cases c46 : t112 = true
   ·subst c46
    have H1 : (rowlocklaw10_LeafCompare.j0 k t109 t110 t111 (-1) a0_0 a0_1 a0_2 a1_0 a1_1 a1_2) = some r := by rw [if_pos rfl] at H; exact H
    clear H
    have H := H1
    clear H1
    have H' := Aside0.mk H
    clear H
    go_wp2
    go_meet
    case rel => exact ⟨_, ((-1)), (by first | rfl | (simp; done) | (simp [*]; done)), H', ⟨by first | omega | exact Nat.le_refl _⟩, ⟨by (with_reducible repeat (first | refine blk_drewN ?_ _ | refine blk_drew ?_ | refine blk_alloc ?_ _)); exact BK101.out⟩, ⟨by (with_reducible repeat (first | refine blk_drewN ?_ _ | refine blk_drew ?_ | refine blk_alloc ?_ _)); exact BK102.out⟩, ⟨by (with_reducible repeat (first | refine blk_drewN ?_ _ | refine blk_drew ?_ | refine blk_alloc ?_ _)); exact BK103.out⟩, ⟨by repeat (first | (with_reducible first | exact HB.out | apply below_alloc | apply pw_below_drewN | apply below_drew1 | refine below_set ?_ GE101.out | refine below_set ?_ GE102.out | refine below_set ?_ GE103.out) | exact HB.out)⟩⟩
   ·replace c46 := Bool.eq_false_iff.mpr c46
    subst c46
    have H1 : (rowlocklaw10_LeafCompare.j0 k t109 t110 t111 0 a0_0 a0_1 a0_2 a1_0 a1_1 a1_2) = some r := by rw [if_neg (show ¬ (false = true) by decide)] at H; exact H
    clear H
    have H := H1
    clear H1
    have H' := Aside0.mk H
    clear H
    go_wp2
    go_meet
    case rel => exact ⟨_, (0), (by first | rfl | (simp; done) | (simp [*]; done)), H', ⟨by first | omega | exact Nat.le_refl _⟩, ⟨by (with_reducible repeat (first | refine blk_drewN ?_ _ | refine blk_drew ?_ | refine blk_alloc ?_ _)); exact BK101.out⟩, ⟨by (with_reducible repeat (first | refine blk_drewN ?_ _ | refine blk_drew ?_ | refine blk_alloc ?_ _)); exact BK102.out⟩, ⟨by (with_reducible repeat (first | refine blk_drewN ?_ _ | refine blk_drew ?_ | refine blk_alloc ?_ _)); exact BK103.out⟩, ⟨by repeat (first | (with_reducible first | exact HB.out | apply below_alloc | apply pw_below_drewN | apply below_drew1 | refine below_set ?_ GE101.out | refine below_set ?_ GE102.out | refine below_set ?_ GE103.out) | exact HB.out)⟩⟩
  case rest =>
   clear HC25
   try clear c1
   try clear c2
   try clear p2
   try clear c3
   try clear c4
   try clear c5
   try clear c9
   try clear c10
   try clear c11
   try clear c12
   try clear c13
   try clear c29
   try clear c30
   try clear c32
   try clear c46
   try clear hcz12_0
   try clear hcz12_1
   try clear hcz12_2
   try clear hcz14_0
   try clear hcz14_1
   try clear hcz14_2
   try clear hcz15_0
   try clear hcz15_1
   try clear hcz15_2
   try clear hcz31_0
   try clear hcz31_1
   try clear hcz31_2
   try clear hcz33_0
   try clear hcz33_1
   try clear hcz33_2
   try clear hcz34_0
   try clear hcz34_1
   try clear hcz34_2
   try clear hcz43_0
   try clear hcz43_1
   try clear hcz43_2
   try clear hcz44_0
   try clear hcz44_1
   try clear hcz44_2
   try clear hfz12_0
   try clear hfz12_1
   try clear hfz12_2
   try clear hfz14_0
   try clear hfz14_1
   try clear hfz14_2
   try clear hfz15_0
   try clear hfz15_1
   try clear hfz15_2
   try clear hfz31_0
   try clear hfz31_1
   try clear hfz31_2
   try clear hfz33_0
   try clear hfz33_1
   try clear hfz33_2
   try clear hfz34_0
   try clear hfz34_1
   try clear hfz34_2
   try clear hfz43_0
   try clear hfz43_1
   try clear hfz43_2
   try clear hfz44_0
   try clear hfz44_1
   try clear hfz44_2
   obtain ⟨kq, x10_24, rfl, HA, HJ24, BK101, BK102, BK103, HB⟩ := hcut
   cases kq with
   | zero => exact absurd HA.out (by simp [rowlocklaw10_LeafCompare.j0])
   | succ kj24 =>
    have H := HA.out
    clear HA
    simp only [rowlocklaw10_LeafCompare.j0] at H
    replace H := Option.bind_eq_some_iff.mp H
    obtain ⟨t113, A470, H⟩ := H
    replace H : (if t113 = true then ((rowlocklaw10_fixed.f).bind fun t114 => (if t114 = true then (if t109 = 1 then ((leaf_Compare.f kj24 a1_0 a1_1 a1_2 a0_0 a0_1 a0_2).bind fun t115 => (if t115 = (wrap64 (-t109)) then (if t109 > 0 then (some true) else (if t110 > 0 then (some true) else (some (decide (t111 ≤ 0))))) else (some false))) else (some false)) else (some false))) else ((rowlocklaw10_fixed.f).bind fun t116 => (if t116 = true then (if t109 = x10_24 then ((leaf_Compare.f kj24 a1_0 a1_1 a1_2 a0_0 a0_1 a0_2).bind fun t117 => (if t117 = (wrap64 (-t109)) then (if t109 > 0 then (some true) else (if t110 > 0 then (some true) else (some (decide (t111 ≤ 0))))) else (some false))) else (some false)) else (some false)))) = some r := H
    have A47 := Aside0.mk A470
    clear A470
    by_cases c48 : t113 = true
    ·subst c48
     have H1 : ((rowlocklaw10_fixed.f).bind fun t114 => (if t114 = true then (if t109 = 1 then ((leaf_Compare.f kj24 a1_0 a1_1 a1_2 a0_0 a0_1 a0_2).bind fun t115 => (if t115 = (wrap64 (-t109)) then (if t109 > 0 then (some true) else (if t110 > 0 then (some true) else (some (decide (t111 ≤ 0))))) else (some false))) else (some false)) else (some false))) = some r := by rw [if_pos rfl] at H; exact H
     clear H
     have H := H1
     clear H1
     replace H := Option.bind_eq_some_iff.mp H
     obtain ⟨t114, A490, H⟩ := H
     replace H : (if t114 = true then (if t109 = 1 then ((leaf_Compare.f kj24 a1_0 a1_1 a1_2 a0_0 a0_1 a0_2).bind fun t115 => (if t115 = (wrap64 (-t109)) then (if t109 > 0 then (some true) else (if t110 > 0 then (some true) else (some (decide (t111 ≤ 0))))) else (some false))) else (some false)) else (some false)) = some r := H
     have A49 := Aside0.mk A490
     clear A490
     by_cases c50 : t114 = true
     ·subst c50
      have H1 : (if t109 = 1 then ((leaf_Compare.f kj24 a1_0 a1_1 a1_2 a0_0 a0_1 a0_2).bind fun t115 => (if t115 = (wrap64 (-t109)) then (if t109 > 0 then (some true) else (if t110 > 0 then (some true) else (some (decide (t111 ≤ 0))))) else (some false))) else (some false)) = some r := by rw [if_pos rfl] at H; exact H
      clear H
      have H := H1
      clear H1
      by_cases c51 : t109 = 1
      ·rw [if_pos c51] at H
       have c51b0 : (t109 == 1) = true := beq_iff_eq.mpr c51
       have c51b1 : (t109 != 1) = false := bne_eq_false_iff_eq.mpr c51
       clear c51
       replace H := Option.bind_eq_some_iff.mp H
       obtain ⟨t115, A520, H⟩ := H
       replace H : (if t115 = (wrap64 (-t109)) then (if t109 > 0 then (some true) else (if t110 > 0 then (some true) else (some (decide (t111 ≤ 0))))) else (some false)) = some r := H
       have A52 := Aside0.mk A520
       clear A520
       by_cases c53 : t115 = (wrap64 (-t109))
       ·rw [if_pos c53] at H
        have c53b0 : (t115 == (wrap64 (-t109))) = true := beq_iff_eq.mpr c53
        have c53b1 : (t115 != (wrap64 (-t109))) = false := bne_eq_false_iff_eq.mpr c53
        clear c53
        by_cases c54 : t109 > 0
        ·rw [if_pos c54] at H
         have c54b0 : decide (0 < t109) = true := decide_eq_true c54
         clear c54
         obtain rfl := Option.some.inj H
         have hnb55 := NB102_101.out
         have hnc55 := NB101_102.out
         have hnb56 := NB102_103.out
         have hnc56 := NB103_102.out
         have hcz57_0 : wc.cell? ⟨gb102, 0, none⟩ = some (.string a1_0) := (blk_cell BK102.out 0).trans rfl
         have hcz57_1 : wc.cell? ⟨gb102, 1, none⟩ = some (.int .u32 a1_1) := (blk_cell BK102.out 1).trans rfl
         have hcz57_2 : wc.cell? ⟨gb102, 2, none⟩ = some (.int .u16 a1_2) := (blk_cell BK102.out 2).trans rfl
         have hfz57_0 := blk_frozen BK102.out 0
         have hfz57_1 := blk_frozen BK102.out 1
         have hfz57_2 := blk_frozen BK102.out 2
         have hnb58 := NB101_103.out
         have hnc58 := NB103_101.out
         have hcz59_0 : wc.cell? ⟨gb101, 0, none⟩ = some (.string a0_0) := (blk_cell BK101.out 0).trans rfl
         have hcz59_1 : wc.cell? ⟨gb101, 1, none⟩ = some (.int .u32 a0_1) := (blk_cell BK101.out 1).trans rfl
         have hcz59_2 : wc.cell? ⟨gb101, 2, none⟩ = some (.int .u16 a0_2) := (blk_cell BK101.out 2).trans rfl
         have hfz59_0 := blk_frozen BK101.out 0
         have hfz59_1 := blk_frozen BK101.out 1
         have hfz59_2 := blk_frozen BK101.out 2
         go_wp2_with (first | ((with_reducible refine gate_callee (f := 12) rfl ?_); refine goesL_ (some 31) rfl rfl Try.func12 (by kernel_rfl) rfl #[.agg #[.string a1_0, .int .u32 a1_1, .int .u16 a1_2], .agg #[.string a0_0, .int .u32 a0_1, .int .u16 a0_2]] rfl (by (try simp only [List.map_toArray, List.map_cons, List.map_nil]); first | done | rfl | (simp only [List.length_drop, List.length_take]; rfl)) ?_; (with_reducible refine (rowlockref10_Less.calls a1_0 a1_1 a1_2 a0_0 a0_1 a0_2 true _ A47.out).mono ?_); rintro e w60 ⟨rfl, hb⟩; refine ⟨_, rfl, ?_⟩; have n0_ := Aside0.mk (blk_below (g := gb101) (o := .cells #[.string a0_0, .int .u32 a0_1, .int .u16 a0_2] 27 (0, 0)) (by (with_reducible repeat (first | refine blk_drewN ?_ _ | refine blk_drew ?_ | refine blk_alloc ?_ _)); exact BK101.out) hb); have n1_ := Aside0.mk (blk_below (g := gb102) (o := .cells #[.string a1_0, .int .u32 a1_1, .int .u16 a1_2] 27 (0, 0)) (by (with_reducible repeat (first | refine blk_drewN ?_ _ | refine blk_drew ?_ | refine blk_alloc ?_ _)); exact BK102.out) hb); have n2_ := Aside0.mk (blk_below (g := gb103) (o := .cells #[.string a2_0, .int .u32 a2_1, .int .u16 a2_2] 27 (0, 0)) (by (with_reducible repeat (first | refine blk_drewN ?_ _ | refine blk_drew ?_ | refine blk_alloc ?_ _)); exact BK103.out) hb); have n3_ := Aside0.mk (below_step (by repeat (first | (with_reducible first | exact HB.out | apply below_alloc | apply pw_below_drewN | apply below_drew1 | refine below_set ?_ GE101.out | refine below_set ?_ GE102.out | refine below_set ?_ GE103.out) | exact HB.out)) hb); clear BK101; clear BK102; clear BK103; clear HB; have BK101 := n0_; have BK102 := n1_; have BK103 := n2_; have HB := n3_; clear n0_ n1_ n2_ n3_; (try clear hb); (try clear hb2); (try clear hk); (try clear hi)) | ((with_reducible refine gate_callee (f := 10) rfl ?_); refine goesL_ (some 32) rfl rfl Try.func10 (by kernel_rfl) rfl #[] rfl (by (try simp only [List.map_toArray, List.map_cons, List.map_nil]); first | done | rfl | (simp only [List.length_drop, List.length_take]; rfl)) ?_; (with_reducible refine (rowlocklaw10_fixed.calls  true _ A49.out).mono ?_); rintro e w61 ⟨rfl, hb⟩; refine ⟨_, rfl, ?_⟩; have n0_ := Aside0.mk (blk_below (g := gb101) (o := .cells #[.string a0_0, .int .u32 a0_1, .int .u16 a0_2] 27 (0, 0)) (by (with_reducible repeat (first | refine blk_drewN ?_ _ | refine blk_drew ?_ | refine blk_alloc ?_ _)); exact BK101.out) hb); have n1_ := Aside0.mk (blk_below (g := gb102) (o := .cells #[.string a1_0, .int .u32 a1_1, .int .u16 a1_2] 27 (0, 0)) (by (with_reducible repeat (first | refine blk_drewN ?_ _ | refine blk_drew ?_ | refine blk_alloc ?_ _)); exact BK102.out) hb); have n2_ := Aside0.mk (blk_below (g := gb103) (o := .cells #[.string a2_0, .int .u32 a2_1, .int .u16 a2_2] 27 (0, 0)) (by (with_reducible repeat (first | refine blk_drewN ?_ _ | refine blk_drew ?_ | refine blk_alloc ?_ _)); exact BK103.out) hb); have n3_ := Aside0.mk (below_step (by repeat (first | (with_reducible first | exact HB.out | apply below_alloc | apply pw_below_drewN | apply below_drew1 | refine below_set ?_ GE101.out | refine below_set ?_ GE102.out | refine below_set ?_ GE103.out) | exact HB.out)) hb); clear BK101; clear BK102; clear BK103; clear HB; have BK101 := n0_; have BK102 := n1_; have BK103 := n2_; have HB := n3_; clear n0_ n1_ n2_ n3_; (try clear hb); (try clear hb2); (try clear hk); (try clear hi); have hcz62_0 : w61.cell? ⟨gb102, 0, none⟩ = some (.string a1_0) := (blk_cell BK102.out 0).trans rfl; have hcz62_1 : w61.cell? ⟨gb102, 1, none⟩ = some (.int .u32 a1_1) := (blk_cell BK102.out 1).trans rfl; have hcz62_2 : w61.cell? ⟨gb102, 2, none⟩ = some (.int .u16 a1_2) := (blk_cell BK102.out 2).trans rfl; have hfz62_0 := blk_frozen BK102.out 0; have hfz62_1 := blk_frozen BK102.out 1; have hfz62_2 := blk_frozen BK102.out 2; have hcz63_0 : w61.cell? ⟨gb101, 0, none⟩ = some (.string a0_0) := (blk_cell BK101.out 0).trans rfl; have hcz63_1 : w61.cell? ⟨gb101, 1, none⟩ = some (.int .u32 a0_1) := (blk_cell BK101.out 1).trans rfl; have hcz63_2 : w61.cell? ⟨gb101, 2, none⟩ = some (.int .u16 a0_2) := (blk_cell BK101.out 2).trans rfl; have hfz63_0 := blk_frozen BK101.out 0; have hfz63_1 := blk_frozen BK101.out 1; have hfz63_2 := blk_frozen BK101.out 2) | (go_at_call 11; (with_reducible refine (leaf_Compare.calls kj24 a1_0 a1_1 a1_2 a0_0 a0_1 a0_2 t115 _ A52.out).mono ?_); rintro e w64 ⟨rfl, hb⟩; have n0_ := Aside0.mk (blk_below (g := gb101) (o := .cells #[.string a0_0, .int .u32 a0_1, .int .u16 a0_2] 27 (0, 0)) (by (with_reducible repeat (first | refine blk_drewN ?_ _ | refine blk_drew ?_ | refine blk_alloc ?_ _)); exact BK101.out) hb); have n1_ := Aside0.mk (blk_below (g := gb102) (o := .cells #[.string a1_0, .int .u32 a1_1, .int .u16 a1_2] 27 (0, 0)) (by (with_reducible repeat (first | refine blk_drewN ?_ _ | refine blk_drew ?_ | refine blk_alloc ?_ _)); exact BK102.out) hb); have n2_ := Aside0.mk (blk_below (g := gb103) (o := .cells #[.string a2_0, .int .u32 a2_1, .int .u16 a2_2] 27 (0, 0)) (by (with_reducible repeat (first | refine blk_drewN ?_ _ | refine blk_drew ?_ | refine blk_alloc ?_ _)); exact BK103.out) hb); have n3_ := Aside0.mk (below_step (by repeat (first | (with_reducible first | exact HB.out | apply below_alloc | apply pw_below_drewN | apply below_drew1 | refine below_set ?_ GE101.out | refine below_set ?_ GE102.out | refine below_set ?_ GE103.out) | exact HB.out)) hb); clear BK101; clear BK102; clear BK103; clear HB; have BK101 := n0_; have BK102 := n1_; have BK103 := n2_; have HB := n3_; clear n0_ n1_ n2_ n3_; (try clear hb); (try clear hb2); (try clear hk); (try clear hi)))
         go_ret
         exact ⟨by first | rfl | (simp [errW_none, errW_some] <;> rfl) | (simp [*, errW_none, errW_some] <;> rfl), by repeat (first | (with_reducible first | exact HB.out | apply below_alloc | apply pw_below_drewN | apply below_drew1 | refine below_set ?_ GE101.out | refine below_set ?_ GE102.out | refine below_set ?_ GE103.out) | exact HB.out)⟩
        ·rw [if_neg c54] at H
         have c54b0 : decide (0 < t109) = false := decide_eq_false c54
         clear c54
         by_cases c65 : t110 > 0
         ·rw [if_pos c65] at H
          have c65b0 : decide (0 < t110) = true := decide_eq_true c65
          clear c65
          obtain rfl := Option.some.inj H
          have hnb66 := NB102_101.out
          have hnc66 := NB101_102.out
          have hnb67 := NB102_103.out
          have hnc67 := NB103_102.out
          have hcz68_0 : wc.cell? ⟨gb102, 0, none⟩ = some (.string a1_0) := (blk_cell BK102.out 0).trans rfl
          have hcz68_1 : wc.cell? ⟨gb102, 1, none⟩ = some (.int .u32 a1_1) := (blk_cell BK102.out 1).trans rfl
          have hcz68_2 : wc.cell? ⟨gb102, 2, none⟩ = some (.int .u16 a1_2) := (blk_cell BK102.out 2).trans rfl
          have hfz68_0 := blk_frozen BK102.out 0
          have hfz68_1 := blk_frozen BK102.out 1
          have hfz68_2 := blk_frozen BK102.out 2
          have hnb69 := NB101_103.out
          have hnc69 := NB103_101.out
          have hcz70_0 : wc.cell? ⟨gb101, 0, none⟩ = some (.string a0_0) := (blk_cell BK101.out 0).trans rfl
          have hcz70_1 : wc.cell? ⟨gb101, 1, none⟩ = some (.int .u32 a0_1) := (blk_cell BK101.out 1).trans rfl
          have hcz70_2 : wc.cell? ⟨gb101, 2, none⟩ = some (.int .u16 a0_2) := (blk_cell BK101.out 2).trans rfl
          have hfz70_0 := blk_frozen BK101.out 0
          have hfz70_1 := blk_frozen BK101.out 1
          have hfz70_2 := blk_frozen BK101.out 2
          go_wp2_with (first | ((with_reducible refine gate_callee (f := 12) rfl ?_); refine goesL_ (some 31) rfl rfl Try.func12 (by kernel_rfl) rfl #[.agg #[.string a1_0, .int .u32 a1_1, .int .u16 a1_2], .agg #[.string a0_0, .int .u32 a0_1, .int .u16 a0_2]] rfl (by (try simp only [List.map_toArray, List.map_cons, List.map_nil]); first | done | rfl | (simp only [List.length_drop, List.length_take]; rfl)) ?_; (with_reducible refine (rowlockref10_Less.calls a1_0 a1_1 a1_2 a0_0 a0_1 a0_2 true _ A47.out).mono ?_); rintro e w71 ⟨rfl, hb⟩; refine ⟨_, rfl, ?_⟩; have n0_ := Aside0.mk (blk_below (g := gb101) (o := .cells #[.string a0_0, .int .u32 a0_1, .int .u16 a0_2] 27 (0, 0)) (by (with_reducible repeat (first | refine blk_drewN ?_ _ | refine blk_drew ?_ | refine blk_alloc ?_ _)); exact BK101.out) hb); have n1_ := Aside0.mk (blk_below (g := gb102) (o := .cells #[.string a1_0, .int .u32 a1_1, .int .u16 a1_2] 27 (0, 0)) (by (with_reducible repeat (first | refine blk_drewN ?_ _ | refine blk_drew ?_ | refine blk_alloc ?_ _)); exact BK102.out) hb); have n2_ := Aside0.mk (blk_below (g := gb103) (o := .cells #[.string a2_0, .int .u32 a2_1, .int .u16 a2_2] 27 (0, 0)) (by (with_reducible repeat (first | refine blk_drewN ?_ _ | refine blk_drew ?_ | refine blk_alloc ?_ _)); exact BK103.out) hb); have n3_ := Aside0.mk (below_step (by repeat (first | (with_reducible first | exact HB.out | apply below_alloc | apply pw_below_drewN | apply below_drew1 | refine below_set ?_ GE101.out | refine below_set ?_ GE102.out | refine below_set ?_ GE103.out) | exact HB.out)) hb); clear BK101; clear BK102; clear BK103; clear HB; have BK101 := n0_; have BK102 := n1_; have BK103 := n2_; have HB := n3_; clear n0_ n1_ n2_ n3_; (try clear hb); (try clear hb2); (try clear hk); (try clear hi)) | ((with_reducible refine gate_callee (f := 10) rfl ?_); refine goesL_ (some 32) rfl rfl Try.func10 (by kernel_rfl) rfl #[] rfl (by (try simp only [List.map_toArray, List.map_cons, List.map_nil]); first | done | rfl | (simp only [List.length_drop, List.length_take]; rfl)) ?_; (with_reducible refine (rowlocklaw10_fixed.calls  true _ A49.out).mono ?_); rintro e w72 ⟨rfl, hb⟩; refine ⟨_, rfl, ?_⟩; have n0_ := Aside0.mk (blk_below (g := gb101) (o := .cells #[.string a0_0, .int .u32 a0_1, .int .u16 a0_2] 27 (0, 0)) (by (with_reducible repeat (first | refine blk_drewN ?_ _ | refine blk_drew ?_ | refine blk_alloc ?_ _)); exact BK101.out) hb); have n1_ := Aside0.mk (blk_below (g := gb102) (o := .cells #[.string a1_0, .int .u32 a1_1, .int .u16 a1_2] 27 (0, 0)) (by (with_reducible repeat (first | refine blk_drewN ?_ _ | refine blk_drew ?_ | refine blk_alloc ?_ _)); exact BK102.out) hb); have n2_ := Aside0.mk (blk_below (g := gb103) (o := .cells #[.string a2_0, .int .u32 a2_1, .int .u16 a2_2] 27 (0, 0)) (by (with_reducible repeat (first | refine blk_drewN ?_ _ | refine blk_drew ?_ | refine blk_alloc ?_ _)); exact BK103.out) hb); have n3_ := Aside0.mk (below_step (by repeat (first | (with_reducible first | exact HB.out | apply below_alloc | apply pw_below_drewN | apply below_drew1 | refine below_set ?_ GE101.out | refine below_set ?_ GE102.out | refine below_set ?_ GE103.out) | exact HB.out)) hb); clear BK101; clear BK102; clear BK103; clear HB; have BK101 := n0_; have BK102 := n1_; have BK103 := n2_; have HB := n3_; clear n0_ n1_ n2_ n3_; (try clear hb); (try clear hb2); (try clear hk); (try clear hi); have hcz73_0 : w72.cell? ⟨gb102, 0, none⟩ = some (.string a1_0) := (blk_cell BK102.out 0).trans rfl; have hcz73_1 : w72.cell? ⟨gb102, 1, none⟩ = some (.int .u32 a1_1) := (blk_cell BK102.out 1).trans rfl; have hcz73_2 : w72.cell? ⟨gb102, 2, none⟩ = some (.int .u16 a1_2) := (blk_cell BK102.out 2).trans rfl; have hfz73_0 := blk_frozen BK102.out 0; have hfz73_1 := blk_frozen BK102.out 1; have hfz73_2 := blk_frozen BK102.out 2; have hcz74_0 : w72.cell? ⟨gb101, 0, none⟩ = some (.string a0_0) := (blk_cell BK101.out 0).trans rfl; have hcz74_1 : w72.cell? ⟨gb101, 1, none⟩ = some (.int .u32 a0_1) := (blk_cell BK101.out 1).trans rfl; have hcz74_2 : w72.cell? ⟨gb101, 2, none⟩ = some (.int .u16 a0_2) := (blk_cell BK101.out 2).trans rfl; have hfz74_0 := blk_frozen BK101.out 0; have hfz74_1 := blk_frozen BK101.out 1; have hfz74_2 := blk_frozen BK101.out 2) | (go_at_call 11; (with_reducible refine (leaf_Compare.calls kj24 a1_0 a1_1 a1_2 a0_0 a0_1 a0_2 t115 _ A52.out).mono ?_); rintro e w75 ⟨rfl, hb⟩; have n0_ := Aside0.mk (blk_below (g := gb101) (o := .cells #[.string a0_0, .int .u32 a0_1, .int .u16 a0_2] 27 (0, 0)) (by (with_reducible repeat (first | refine blk_drewN ?_ _ | refine blk_drew ?_ | refine blk_alloc ?_ _)); exact BK101.out) hb); have n1_ := Aside0.mk (blk_below (g := gb102) (o := .cells #[.string a1_0, .int .u32 a1_1, .int .u16 a1_2] 27 (0, 0)) (by (with_reducible repeat (first | refine blk_drewN ?_ _ | refine blk_drew ?_ | refine blk_alloc ?_ _)); exact BK102.out) hb); have n2_ := Aside0.mk (blk_below (g := gb103) (o := .cells #[.string a2_0, .int .u32 a2_1, .int .u16 a2_2] 27 (0, 0)) (by (with_reducible repeat (first | refine blk_drewN ?_ _ | refine blk_drew ?_ | refine blk_alloc ?_ _)); exact BK103.out) hb); have n3_ := Aside0.mk (below_step (by repeat (first | (with_reducible first | exact HB.out | apply below_alloc | apply pw_below_drewN | apply below_drew1 | refine below_set ?_ GE101.out | refine below_set ?_ GE102.out | refine below_set ?_ GE103.out) | exact HB.out)) hb); clear BK101; clear BK102; clear BK103; clear HB; have BK101 := n0_; have BK102 := n1_; have BK103 := n2_; have HB := n3_; clear n0_ n1_ n2_ n3_; (try clear hb); (try clear hb2); (try clear hk); (try clear hi)))
          go_ret
          exact ⟨by first | rfl | (simp [errW_none, errW_some] <;> rfl) | (simp [*, errW_none, errW_some] <;> rfl), by repeat (first | (with_reducible first | exact HB.out | apply below_alloc | apply pw_below_drewN | apply below_drew1 | refine below_set ?_ GE101.out | refine below_set ?_ GE102.out | refine below_set ?_ GE103.out) | exact HB.out)⟩
         ·rw [if_neg c65] at H
          have c65b0 : decide (0 < t110) = false := decide_eq_false c65
          clear c65
          obtain rfl := Option.some.inj H
          have hnb76 := NB102_101.out
          have hnc76 := NB101_102.out
          have hnb77 := NB102_103.out
          have hnc77 := NB103_102.out
          have hcz78_0 : wc.cell? ⟨gb102, 0, none⟩ = some (.string a1_0) := (blk_cell BK102.out 0).trans rfl
          have hcz78_1 : wc.cell? ⟨gb102, 1, none⟩ = some (.int .u32 a1_1) := (blk_cell BK102.out 1).trans rfl
          have hcz78_2 : wc.cell? ⟨gb102, 2, none⟩ = some (.int .u16 a1_2) := (blk_cell BK102.out 2).trans rfl
          have hfz78_0 := blk_frozen BK102.out 0
          have hfz78_1 := blk_frozen BK102.out 1
          have hfz78_2 := blk_frozen BK102.out 2
          have hnb79 := NB101_103.out
          have hnc79 := NB103_101.out
          have hcz80_0 : wc.cell? ⟨gb101, 0, none⟩ = some (.string a0_0) := (blk_cell BK101.out 0).trans rfl
          have hcz80_1 : wc.cell? ⟨gb101, 1, none⟩ = some (.int .u32 a0_1) := (blk_cell BK101.out 1).trans rfl
          have hcz80_2 : wc.cell? ⟨gb101, 2, none⟩ = some (.int .u16 a0_2) := (blk_cell BK101.out 2).trans rfl
          have hfz80_0 := blk_frozen BK101.out 0
          have hfz80_1 := blk_frozen BK101.out 1
          have hfz80_2 := blk_frozen BK101.out 2
          go_wp2_with (first | ((with_reducible refine gate_callee (f := 12) rfl ?_); refine goesL_ (some 31) rfl rfl Try.func12 (by kernel_rfl) rfl #[.agg #[.string a1_0, .int .u32 a1_1, .int .u16 a1_2], .agg #[.string a0_0, .int .u32 a0_1, .int .u16 a0_2]] rfl (by (try simp only [List.map_toArray, List.map_cons, List.map_nil]); first | done | rfl | (simp only [List.length_drop, List.length_take]; rfl)) ?_; (with_reducible refine (rowlockref10_Less.calls a1_0 a1_1 a1_2 a0_0 a0_1 a0_2 true _ A47.out).mono ?_); rintro e w81 ⟨rfl, hb⟩; refine ⟨_, rfl, ?_⟩; have n0_ := Aside0.mk (blk_below (g := gb101) (o := .cells #[.string a0_0, .int .u32 a0_1, .int .u16 a0_2] 27 (0, 0)) (by (with_reducible repeat (first | refine blk_drewN ?_ _ | refine blk_drew ?_ | refine blk_alloc ?_ _)); exact BK101.out) hb); have n1_ := Aside0.mk (blk_below (g := gb102) (o := .cells #[.string a1_0, .int .u32 a1_1, .int .u16 a1_2] 27 (0, 0)) (by (with_reducible repeat (first | refine blk_drewN ?_ _ | refine blk_drew ?_ | refine blk_alloc ?_ _)); exact BK102.out) hb); have n2_ := Aside0.mk (blk_below (g := gb103) (o := .cells #[.string a2_0, .int .u32 a2_1, .int .u16 a2_2] 27 (0, 0)) (by (with_reducible repeat (first | refine blk_drewN ?_ _ | refine blk_drew ?_ | refine blk_alloc ?_ _)); exact BK103.out) hb); have n3_ := Aside0.mk (below_step (by repeat (first | (with_reducible first | exact HB.out | apply below_alloc | apply pw_below_drewN | apply below_drew1 | refine below_set ?_ GE101.out | refine below_set ?_ GE102.out | refine below_set ?_ GE103.out) | exact HB.out)) hb); clear BK101; clear BK102; clear BK103; clear HB; have BK101 := n0_; have BK102 := n1_; have BK103 := n2_; have HB := n3_; clear n0_ n1_ n2_ n3_; (try clear hb); (try clear hb2); (try clear hk); (try clear hi)) | ((with_reducible refine gate_callee (f := 10) rfl ?_); refine goesL_ (some 32) rfl rfl Try.func10 (by kernel_rfl) rfl #[] rfl (by (try simp only [List.map_toArray, List.map_cons, List.map_nil]); first | done | rfl | (simp only [List.length_drop, List.length_take]; rfl)) ?_; (with_reducible refine (rowlocklaw10_fixed.calls  true _ A49.out).mono ?_); rintro e w82 ⟨rfl, hb⟩; refine ⟨_, rfl, ?_⟩; have n0_ := Aside0.mk (blk_below (g := gb101) (o := .cells #[.string a0_0, .int .u32 a0_1, .int .u16 a0_2] 27 (0, 0)) (by (with_reducible repeat (first | refine blk_drewN ?_ _ | refine blk_drew ?_ | refine blk_alloc ?_ _)); exact BK101.out) hb); have n1_ := Aside0.mk (blk_below (g := gb102) (o := .cells #[.string a1_0, .int .u32 a1_1, .int .u16 a1_2] 27 (0, 0)) (by (with_reducible repeat (first | refine blk_drewN ?_ _ | refine blk_drew ?_ | refine blk_alloc ?_ _)); exact BK102.out) hb); have n2_ := Aside0.mk (blk_below (g := gb103) (o := .cells #[.string a2_0, .int .u32 a2_1, .int .u16 a2_2] 27 (0, 0)) (by (with_reducible repeat (first | refine blk_drewN ?_ _ | refine blk_drew ?_ | refine blk_alloc ?_ _)); exact BK103.out) hb); have n3_ := Aside0.mk (below_step (by repeat (first | (with_reducible first | exact HB.out | apply below_alloc | apply pw_below_drewN | apply below_drew1 | refine below_set ?_ GE101.out | refine below_set ?_ GE102.out | refine below_set ?_ GE103.out) | exact HB.out)) hb); clear BK101; clear BK102; clear BK103; clear HB; have BK101 := n0_; have BK102 := n1_; have BK103 := n2_; have HB := n3_; clear n0_ n1_ n2_ n3_; (try clear hb); (try clear hb2); (try clear hk); (try clear hi); have hcz83_0 : w82.cell? ⟨gb102, 0, none⟩ = some (.string a1_0) := (blk_cell BK102.out 0).trans rfl; have hcz83_1 : w82.cell? ⟨gb102, 1, none⟩ = some (.int .u32 a1_1) := (blk_cell BK102.out 1).trans rfl; have hcz83_2 : w82.cell? ⟨gb102, 2, none⟩ = some (.int .u16 a1_2) := (blk_cell BK102.out 2).trans rfl; have hfz83_0 := blk_frozen BK102.out 0; have hfz83_1 := blk_frozen BK102.out 1; have hfz83_2 := blk_frozen BK102.out 2; have hcz84_0 : w82.cell? ⟨gb101, 0, none⟩ = some (.string a0_0) := (blk_cell BK101.out 0).trans rfl; have hcz84_1 : w82.cell? ⟨gb101, 1, none⟩ = some (.int .u32 a0_1) := (blk_cell BK101.out 1).trans rfl; have hcz84_2 : w82.cell? ⟨gb101, 2, none⟩ = some (.int .u16 a0_2) := (blk_cell BK101.out 2).trans rfl; have hfz84_0 := blk_frozen BK101.out 0; have hfz84_1 := blk_frozen BK101.out 1; have hfz84_2 := blk_frozen BK101.out 2) | (go_at_call 11; (with_reducible refine (leaf_Compare.calls kj24 a1_0 a1_1 a1_2 a0_0 a0_1 a0_2 t115 _ A52.out).mono ?_); rintro e w85 ⟨rfl, hb⟩; have n0_ := Aside0.mk (blk_below (g := gb101) (o := .cells #[.string a0_0, .int .u32 a0_1, .int .u16 a0_2] 27 (0, 0)) (by (with_reducible repeat (first | refine blk_drewN ?_ _ | refine blk_drew ?_ | refine blk_alloc ?_ _)); exact BK101.out) hb); have n1_ := Aside0.mk (blk_below (g := gb102) (o := .cells #[.string a1_0, .int .u32 a1_1, .int .u16 a1_2] 27 (0, 0)) (by (with_reducible repeat (first | refine blk_drewN ?_ _ | refine blk_drew ?_ | refine blk_alloc ?_ _)); exact BK102.out) hb); have n2_ := Aside0.mk (blk_below (g := gb103) (o := .cells #[.string a2_0, .int .u32 a2_1, .int .u16 a2_2] 27 (0, 0)) (by (with_reducible repeat (first | refine blk_drewN ?_ _ | refine blk_drew ?_ | refine blk_alloc ?_ _)); exact BK103.out) hb); have n3_ := Aside0.mk (below_step (by repeat (first | (with_reducible first | exact HB.out | apply below_alloc | apply pw_below_drewN | apply below_drew1 | refine below_set ?_ GE101.out | refine below_set ?_ GE102.out | refine below_set ?_ GE103.out) | exact HB.out)) hb); clear BK101; clear BK102; clear BK103; clear HB; have BK101 := n0_; have BK102 := n1_; have BK103 := n2_; have HB := n3_; clear n0_ n1_ n2_ n3_; (try clear hb); (try clear hb2); (try clear hk); (try clear hi)))
          go_ret
          exact ⟨by first | rfl | (simp [errW_none, errW_some] <;> rfl) | (simp [*, errW_none, errW_some] <;> rfl), by repeat (first | (with_reducible first | exact HB.out | apply below_alloc | apply pw_below_drewN | apply below_drew1 | refine below_set ?_ GE101.out | refine below_set ?_ GE102.out | refine below_set ?_ GE103.out) | exact HB.out)⟩
       ·rw [if_neg c53] at H
        have c53b0 : (t115 == (wrap64 (-t109))) = false := beq_eq_false_iff_ne.mpr c53
        have c53b1 : (t115 != (wrap64 (-t109))) = true := bne_iff_ne.mpr c53
        obtain rfl := Option.some.inj H
        have hnb86 := NB102_101.out
        have hnc86 := NB101_102.out
        have hnb87 := NB102_103.out
        have hnc87 := NB103_102.out
        have hcz88_0 : wc.cell? ⟨gb102, 0, none⟩ = some (.string a1_0) := (blk_cell BK102.out 0).trans rfl
        have hcz88_1 : wc.cell? ⟨gb102, 1, none⟩ = some (.int .u32 a1_1) := (blk_cell BK102.out 1).trans rfl
        have hcz88_2 : wc.cell? ⟨gb102, 2, none⟩ = some (.int .u16 a1_2) := (blk_cell BK102.out 2).trans rfl
        have hfz88_0 := blk_frozen BK102.out 0
        have hfz88_1 := blk_frozen BK102.out 1
        have hfz88_2 := blk_frozen BK102.out 2
        have hnb89 := NB101_103.out
        have hnc89 := NB103_101.out
        have hcz90_0 : wc.cell? ⟨gb101, 0, none⟩ = some (.string a0_0) := (blk_cell BK101.out 0).trans rfl
        have hcz90_1 : wc.cell? ⟨gb101, 1, none⟩ = some (.int .u32 a0_1) := (blk_cell BK101.out 1).trans rfl
        have hcz90_2 : wc.cell? ⟨gb101, 2, none⟩ = some (.int .u16 a0_2) := (blk_cell BK101.out 2).trans rfl
        have hfz90_0 := blk_frozen BK101.out 0
        have hfz90_1 := blk_frozen BK101.out 1
        have hfz90_2 := blk_frozen BK101.out 2
        go_wp2_with (first | ((with_reducible refine gate_callee (f := 12) rfl ?_); refine goesL_ (some 31) rfl rfl Try.func12 (by kernel_rfl) rfl #[.agg #[.string a1_0, .int .u32 a1_1, .int .u16 a1_2], .agg #[.string a0_0, .int .u32 a0_1, .int .u16 a0_2]] rfl (by (try simp only [List.map_toArray, List.map_cons, List.map_nil]); first | done | rfl | (simp only [List.length_drop, List.length_take]; rfl)) ?_; (with_reducible refine (rowlockref10_Less.calls a1_0 a1_1 a1_2 a0_0 a0_1 a0_2 true _ A47.out).mono ?_); rintro e w91 ⟨rfl, hb⟩; refine ⟨_, rfl, ?_⟩; have n0_ := Aside0.mk (blk_below (g := gb101) (o := .cells #[.string a0_0, .int .u32 a0_1, .int .u16 a0_2] 27 (0, 0)) (by (with_reducible repeat (first | refine blk_drewN ?_ _ | refine blk_drew ?_ | refine blk_alloc ?_ _)); exact BK101.out) hb); have n1_ := Aside0.mk (blk_below (g := gb102) (o := .cells #[.string a1_0, .int .u32 a1_1, .int .u16 a1_2] 27 (0, 0)) (by (with_reducible repeat (first | refine blk_drewN ?_ _ | refine blk_drew ?_ | refine blk_alloc ?_ _)); exact BK102.out) hb); have n2_ := Aside0.mk (blk_below (g := gb103) (o := .cells #[.string a2_0, .int .u32 a2_1, .int .u16 a2_2] 27 (0, 0)) (by (with_reducible repeat (first | refine blk_drewN ?_ _ | refine blk_drew ?_ | refine blk_alloc ?_ _)); exact BK103.out) hb); have n3_ := Aside0.mk (below_step (by repeat (first | (with_reducible first | exact HB.out | apply below_alloc | apply pw_below_drewN | apply below_drew1 | refine below_set ?_ GE101.out | refine below_set ?_ GE102.out | refine below_set ?_ GE103.out) | exact HB.out)) hb); clear BK101; clear BK102; clear BK103; clear HB; have BK101 := n0_; have BK102 := n1_; have BK103 := n2_; have HB := n3_; clear n0_ n1_ n2_ n3_; (try clear hb); (try clear hb2); (try clear hk); (try clear hi)) | ((with_reducible refine gate_callee (f := 10) rfl ?_); refine goesL_ (some 32) rfl rfl Try.func10 (by kernel_rfl) rfl #[] rfl (by (try simp only [List.map_toArray, List.map_cons, List.map_nil]); first | done | rfl | (simp only [List.length_drop, List.length_take]; rfl)) ?_; (with_reducible refine (rowlocklaw10_fixed.calls  true _ A49.out).mono ?_); rintro e w92 ⟨rfl, hb⟩; refine ⟨_, rfl, ?_⟩; have n0_ := Aside0.mk (blk_below (g := gb101) (o := .cells #[.string a0_0, .int .u32 a0_1, .int .u16 a0_2] 27 (0, 0)) (by (with_reducible repeat (first | refine blk_drewN ?_ _ | refine blk_drew ?_ | refine blk_alloc ?_ _)); exact BK101.out) hb); have n1_ := Aside0.mk (blk_below (g := gb102) (o := .cells #[.string a1_0, .int .u32 a1_1, .int .u16 a1_2] 27 (0, 0)) (by (with_reducible repeat (first | refine blk_drewN ?_ _ | refine blk_drew ?_ | refine blk_alloc ?_ _)); exact BK102.out) hb); have n2_ := Aside0.mk (blk_below (g := gb103) (o := .cells #[.string a2_0, .int .u32 a2_1, .int .u16 a2_2] 27 (0, 0)) (by (with_reducible repeat (first | refine blk_drewN ?_ _ | refine blk_drew ?_ | refine blk_alloc ?_ _)); exact BK103.out) hb); have n3_ := Aside0.mk (below_step (by repeat (first | (with_reducible first | exact HB.out | apply below_alloc | apply pw_below_drewN | apply below_drew1 | refine below_set ?_ GE101.out | refine below_set ?_ GE102.out | refine below_set ?_ GE103.out) | exact HB.out)) hb); clear BK101; clear BK102; clear BK103; clear HB; have BK101 := n0_; have BK102 := n1_; have BK103 := n2_; have HB := n3_; clear n0_ n1_ n2_ n3_; (try clear hb); (try clear hb2); (try clear hk); (try clear hi); have hcz93_0 : w92.cell? ⟨gb102, 0, none⟩ = some (.string a1_0) := (blk_cell BK102.out 0).trans rfl; have hcz93_1 : w92.cell? ⟨gb102, 1, none⟩ = some (.int .u32 a1_1) := (blk_cell BK102.out 1).trans rfl; have hcz93_2 : w92.cell? ⟨gb102, 2, none⟩ = some (.int .u16 a1_2) := (blk_cell BK102.out 2).trans rfl; have hfz93_0 := blk_frozen BK102.out 0; have hfz93_1 := blk_frozen BK102.out 1; have hfz93_2 := blk_frozen BK102.out 2; have hcz94_0 : w92.cell? ⟨gb101, 0, none⟩ = some (.string a0_0) := (blk_cell BK101.out 0).trans rfl; have hcz94_1 : w92.cell? ⟨gb101, 1, none⟩ = some (.int .u32 a0_1) := (blk_cell BK101.out 1).trans rfl; have hcz94_2 : w92.cell? ⟨gb101, 2, none⟩ = some (.int .u16 a0_2) := (blk_cell BK101.out 2).trans rfl; have hfz94_0 := blk_frozen BK101.out 0; have hfz94_1 := blk_frozen BK101.out 1; have hfz94_2 := blk_frozen BK101.out 2) | (go_at_call 11; (with_reducible refine (leaf_Compare.calls kj24 a1_0 a1_1 a1_2 a0_0 a0_1 a0_2 t115 _ A52.out).mono ?_); rintro e w95 ⟨rfl, hb⟩; have n0_ := Aside0.mk (blk_below (g := gb101) (o := .cells #[.string a0_0, .int .u32 a0_1, .int .u16 a0_2] 27 (0, 0)) (by (with_reducible repeat (first | refine blk_drewN ?_ _ | refine blk_drew ?_ | refine blk_alloc ?_ _)); exact BK101.out) hb); have n1_ := Aside0.mk (blk_below (g := gb102) (o := .cells #[.string a1_0, .int .u32 a1_1, .int .u16 a1_2] 27 (0, 0)) (by (with_reducible repeat (first | refine blk_drewN ?_ _ | refine blk_drew ?_ | refine blk_alloc ?_ _)); exact BK102.out) hb); have n2_ := Aside0.mk (blk_below (g := gb103) (o := .cells #[.string a2_0, .int .u32 a2_1, .int .u16 a2_2] 27 (0, 0)) (by (with_reducible repeat (first | refine blk_drewN ?_ _ | refine blk_drew ?_ | refine blk_alloc ?_ _)); exact BK103.out) hb); have n3_ := Aside0.mk (below_step (by repeat (first | (with_reducible first | exact HB.out | apply below_alloc | apply pw_below_drewN | apply below_drew1 | refine below_set ?_ GE101.out | refine below_set ?_ GE102.out | refine below_set ?_ GE103.out) | exact HB.out)) hb); clear BK101; clear BK102; clear BK103; clear HB; have BK101 := n0_; have BK102 := n1_; have BK103 := n2_; have HB := n3_; clear n0_ n1_ n2_ n3_; (try clear hb); (try clear hb2); (try clear hk); (try clear hi)))
        go_ret
        exact ⟨by first | rfl | (simp [errW_none, errW_some] <;> rfl) | (simp [*, errW_none, errW_some] <;> rfl), by repeat (first | (with_reducible first | exact HB.out | apply below_alloc | apply pw_below_drewN | apply below_drew1 | refine below_set ?_ GE101.out | refine below_set ?_ GE102.out | refine below_set ?_ GE103.out) | exact HB.out)⟩
      ·rw [if_neg c51] at H
       have c51b0 : (t109 == 1) = false := beq_eq_false_iff_ne.mpr c51
       have c51b1 : (t109 != 1) = true := bne_iff_ne.mpr c51
       obtain rfl := Option.some.inj H
       have hnb96 := NB102_101.out
       have hnc96 := NB101_102.out
       have hnb97 := NB102_103.out
       have hnc97 := NB103_102.out
       have hcz98_0 : wc.cell? ⟨gb102, 0, none⟩ = some (.string a1_0) := (blk_cell BK102.out 0).trans rfl
       have hcz98_1 : wc.cell? ⟨gb102, 1, none⟩ = some (.int .u32 a1_1) := (blk_cell BK102.out 1).trans rfl
       have hcz98_2 : wc.cell? ⟨gb102, 2, none⟩ = some (.int .u16 a1_2) := (blk_cell BK102.out 2).trans rfl
       have hfz98_0 := blk_frozen BK102.out 0
       have hfz98_1 := blk_frozen BK102.out 1
       have hfz98_2 := blk_frozen BK102.out 2
       have hnb99 := NB101_103.out
       have hnc99 := NB103_101.out
       have hcz100_0 : wc.cell? ⟨gb101, 0, none⟩ = some (.string a0_0) := (blk_cell BK101.out 0).trans rfl
       have hcz100_1 : wc.cell? ⟨gb101, 1, none⟩ = some (.int .u32 a0_1) := (blk_cell BK101.out 1).trans rfl
       have hcz100_2 : wc.cell? ⟨gb101, 2, none⟩ = some (.int .u16 a0_2) := (blk_cell BK101.out 2).trans rfl
       have hfz100_0 := blk_frozen BK101.out 0
       have hfz100_1 := blk_frozen BK101.out 1
       have hfz100_2 := blk_frozen BK101.out 2
       go_wp2_with (first | ((with_reducible refine gate_callee (f := 12) rfl ?_); refine goesL_ (some 31) rfl rfl Try.func12 (by kernel_rfl) rfl #[.agg #[.string a1_0, .int .u32 a1_1, .int .u16 a1_2], .agg #[.string a0_0, .int .u32 a0_1, .int .u16 a0_2]] rfl (by (try simp only [List.map_toArray, List.map_cons, List.map_nil]); first | done | rfl | (simp only [List.length_drop, List.length_take]; rfl)) ?_; (with_reducible refine (rowlockref10_Less.calls a1_0 a1_1 a1_2 a0_0 a0_1 a0_2 true _ A47.out).mono ?_); rintro e w101 ⟨rfl, hb⟩; refine ⟨_, rfl, ?_⟩; have n0_ := Aside0.mk (blk_below (g := gb101) (o := .cells #[.string a0_0, .int .u32 a0_1, .int .u16 a0_2] 27 (0, 0)) (by (with_reducible repeat (first | refine blk_drewN ?_ _ | refine blk_drew ?_ | refine blk_alloc ?_ _)); exact BK101.out) hb); have n1_ := Aside0.mk (blk_below (g := gb102) (o := .cells #[.string a1_0, .int .u32 a1_1, .int .u16 a1_2] 27 (0, 0)) (by (with_reducible repeat (first | refine blk_drewN ?_ _ | refine blk_drew ?_ | refine blk_alloc ?_ _)); exact BK102.out) hb); have n2_ := Aside0.mk (blk_below (g := gb103) (o := .cells #[.string a2_0, .int .u32 a2_1, .int .u16 a2_2] 27 (0, 0)) (by (with_reducible repeat (first | refine blk_drewN ?_ _ | refine blk_drew ?_ | refine blk_alloc ?_ _)); exact BK103.out) hb); have n3_ := Aside0.mk (below_step (by repeat (first | (with_reducible first | exact HB.out | apply below_alloc | apply pw_below_drewN | apply below_drew1 | refine below_set ?_ GE101.out | refine below_set ?_ GE102.out | refine below_set ?_ GE103.out) | exact HB.out)) hb); clear BK101; clear BK102; clear BK103; clear HB; have BK101 := n0_; have BK102 := n1_; have BK103 := n2_; have HB := n3_; clear n0_ n1_ n2_ n3_; (try clear hb); (try clear hb2); (try clear hk); (try clear hi)) | ((with_reducible refine gate_callee (f := 10) rfl ?_); refine goesL_ (some 32) rfl rfl Try.func10 (by kernel_rfl) rfl #[] rfl (by (try simp only [List.map_toArray, List.map_cons, List.map_nil]); first | done | rfl | (simp only [List.length_drop, List.length_take]; rfl)) ?_; (with_reducible refine (rowlocklaw10_fixed.calls  true _ A49.out).mono ?_); rintro e w102 ⟨rfl, hb⟩; refine ⟨_, rfl, ?_⟩; have n0_ := Aside0.mk (blk_below (g := gb101) (o := .cells #[.string a0_0, .int .u32 a0_1, .int .u16 a0_2] 27 (0, 0)) (by (with_reducible repeat (first | refine blk_drewN ?_ _ | refine blk_drew ?_ | refine blk_alloc ?_ _)); exact BK101.out) hb); have n1_ := Aside0.mk (blk_below (g := gb102) (o := .cells #[.string a1_0, .int .u32 a1_1, .int .u16 a1_2] 27 (0, 0)) (by (with_reducible repeat (first | refine blk_drewN ?_ _ | refine blk_drew ?_ | refine blk_alloc ?_ _)); exact BK102.out) hb); have n2_ := Aside0.mk (blk_below (g := gb103) (o := .cells #[.string a2_0, .int .u32 a2_1, .int .u16 a2_2] 27 (0, 0)) (by (with_reducible repeat (first | refine blk_drewN ?_ _ | refine blk_drew ?_ | refine blk_alloc ?_ _)); exact BK103.out) hb); have n3_ := Aside0.mk (below_step (by repeat (first | (with_reducible first | exact HB.out | apply below_alloc | apply pw_below_drewN | apply below_drew1 | refine below_set ?_ GE101.out | refine below_set ?_ GE102.out | refine below_set ?_ GE103.out) | exact HB.out)) hb); clear BK101; clear BK102; clear BK103; clear HB; have BK101 := n0_; have BK102 := n1_; have BK103 := n2_; have HB := n3_; clear n0_ n1_ n2_ n3_; (try clear hb); (try clear hb2); (try clear hk); (try clear hi)))
       go_ret
       exact ⟨by first | rfl | (simp [errW_none, errW_some] <;> rfl) | (simp [*, errW_none, errW_some] <;> rfl), by repeat (first | (with_reducible first | exact HB.out | apply below_alloc | apply pw_below_drewN | apply below_drew1 | refine below_set ?_ GE101.out | refine below_set ?_ GE102.out | refine below_set ?_ GE103.out) | exact HB.out)⟩
     ·replace c50 := Bool.eq_false_iff.mpr c50
      subst c50
      have H1 : (some false) = some r := by rw [if_neg (show ¬ (false = true) by decide)] at H; exact H
      clear H
      have H := H1
      clear H1
      obtain rfl := Option.some.inj H
      have hnb103 := NB102_101.out
      have hnc103 := NB101_102.out
      have hnb104 := NB102_103.out
      have hnc104 := NB103_102.out
      have hcz105_0 : wc.cell? ⟨gb102, 0, none⟩ = some (.string a1_0) := (blk_cell BK102.out 0).trans rfl
      have hcz105_1 : wc.cell? ⟨gb102, 1, none⟩ = some (.int .u32 a1_1) := (blk_cell BK102.out 1).trans rfl
      have hcz105_2 : wc.cell? ⟨gb102, 2, none⟩ = some (.int .u16 a1_2) := (blk_cell BK102.out 2).trans rfl
      have hfz105_0 := blk_frozen BK102.out 0
      have hfz105_1 := blk_frozen BK102.out 1
      have hfz105_2 := blk_frozen BK102.out 2
      have hnb106 := NB101_103.out
      have hnc106 := NB103_101.out
      have hcz107_0 : wc.cell? ⟨gb101, 0, none⟩ = some (.string a0_0) := (blk_cell BK101.out 0).trans rfl
      have hcz107_1 : wc.cell? ⟨gb101, 1, none⟩ = some (.int .u32 a0_1) := (blk_cell BK101.out 1).trans rfl
      have hcz107_2 : wc.cell? ⟨gb101, 2, none⟩ = some (.int .u16 a0_2) := (blk_cell BK101.out 2).trans rfl
      have hfz107_0 := blk_frozen BK101.out 0
      have hfz107_1 := blk_frozen BK101.out 1
      have hfz107_2 := blk_frozen BK101.out 2
      go_wp2_with (first | ((with_reducible refine gate_callee (f := 12) rfl ?_); refine goesL_ (some 31) rfl rfl Try.func12 (by kernel_rfl) rfl #[.agg #[.string a1_0, .int .u32 a1_1, .int .u16 a1_2], .agg #[.string a0_0, .int .u32 a0_1, .int .u16 a0_2]] rfl (by (try simp only [List.map_toArray, List.map_cons, List.map_nil]); first | done | rfl | (simp only [List.length_drop, List.length_take]; rfl)) ?_; (with_reducible refine (rowlockref10_Less.calls a1_0 a1_1 a1_2 a0_0 a0_1 a0_2 true _ A47.out).mono ?_); rintro e w108 ⟨rfl, hb⟩; refine ⟨_, rfl, ?_⟩; have n0_ := Aside0.mk (blk_below (g := gb101) (o := .cells #[.string a0_0, .int .u32 a0_1, .int .u16 a0_2] 27 (0, 0)) (by (with_reducible repeat (first | refine blk_drewN ?_ _ | refine blk_drew ?_ | refine blk_alloc ?_ _)); exact BK101.out) hb); have n1_ := Aside0.mk (blk_below (g := gb102) (o := .cells #[.string a1_0, .int .u32 a1_1, .int .u16 a1_2] 27 (0, 0)) (by (with_reducible repeat (first | refine blk_drewN ?_ _ | refine blk_drew ?_ | refine blk_alloc ?_ _)); exact BK102.out) hb); have n2_ := Aside0.mk (blk_below (g := gb103) (o := .cells #[.string a2_0, .int .u32 a2_1, .int .u16 a2_2] 27 (0, 0)) (by (with_reducible repeat (first | refine blk_drewN ?_ _ | refine blk_drew ?_ | refine blk_alloc ?_ _)); exact BK103.out) hb); have n3_ := Aside0.mk (below_step (by repeat (first | (with_reducible first | exact HB.out | apply below_alloc | apply pw_below_drewN | apply below_drew1 | refine below_set ?_ GE101.out | refine below_set ?_ GE102.out | refine below_set ?_ GE103.out) | exact HB.out)) hb); clear BK101; clear BK102; clear BK103; clear HB; have BK101 := n0_; have BK102 := n1_; have BK103 := n2_; have HB := n3_; clear n0_ n1_ n2_ n3_; (try clear hb); (try clear hb2); (try clear hk); (try clear hi)) | ((with_reducible refine gate_callee (f := 10) rfl ?_); refine goesL_ (some 32) rfl rfl Try.func10 (by kernel_rfl) rfl #[] rfl (by (try simp only [List.map_toArray, List.map_cons, List.map_nil]); first | done | rfl | (simp only [List.length_drop, List.length_take]; rfl)) ?_; (with_reducible refine (rowlocklaw10_fixed.calls  false _ A49.out).mono ?_); rintro e w109 ⟨rfl, hb⟩; refine ⟨_, rfl, ?_⟩; have n0_ := Aside0.mk (blk_below (g := gb101) (o := .cells #[.string a0_0, .int .u32 a0_1, .int .u16 a0_2] 27 (0, 0)) (by (with_reducible repeat (first | refine blk_drewN ?_ _ | refine blk_drew ?_ | refine blk_alloc ?_ _)); exact BK101.out) hb); have n1_ := Aside0.mk (blk_below (g := gb102) (o := .cells #[.string a1_0, .int .u32 a1_1, .int .u16 a1_2] 27 (0, 0)) (by (with_reducible repeat (first | refine blk_drewN ?_ _ | refine blk_drew ?_ | refine blk_alloc ?_ _)); exact BK102.out) hb); have n2_ := Aside0.mk (blk_below (g := gb103) (o := .cells #[.string a2_0, .int .u32 a2_1, .int .u16 a2_2] 27 (0, 0)) (by (with_reducible repeat (first | refine blk_drewN ?_ _ | refine blk_drew ?_ | refine blk_alloc ?_ _)); exact BK103.out) hb); have n3_ := Aside0.mk (below_step (by repeat (first | (with_reducible first | exact HB.out | apply below_alloc | apply pw_below_drewN | apply below_drew1 | refine below_set ?_ GE101.out | refine below_set ?_ GE102.out | refine below_set ?_ GE103.out) | exact HB.out)) hb); clear BK101; clear BK102; clear BK103; clear HB; have BK101 := n0_; have BK102 := n1_; have BK103 := n2_; have HB := n3_; clear n0_ n1_ n2_ n3_; (try clear hb); (try clear hb2); (try clear hk); (try clear hi)))
      go_ret
      exact ⟨by first | rfl | (simp [errW_none, errW_some] <;> rfl) | (simp [*, errW_none, errW_some] <;> rfl), by repeat (first | (with_reducible first | exact HB.out | apply below_alloc | apply pw_below_drewN | apply below_drew1 | refine below_set ?_ GE101.out | refine below_set ?_ GE102.out | refine below_set ?_ GE103.out) | exact HB.out)⟩
    ·replace c48 := Bool.eq_false_iff.mpr c48
     subst c48
     have H1 : ((rowlocklaw10_fixed.f).bind fun t116 => (if t116 = true then (if t109 = x10_24 then ((leaf_Compare.f kj24 a1_0 a1_1 a1_2 a0_0 a0_1 a0_2).bind fun t117 => (if t117 = (wrap64 (-t109)) then (if t109 > 0 then (some true) else (if t110 > 0 then (some true) else (some (decide (t111 ≤ 0))))) else (some false))) else (some false)) else (some false))) = some r := by rw [if_neg (show ¬ (false = true) by decide)] at H; exact H
     clear H
     have H := H1
     clear H1
     replace H := Option.bind_eq_some_iff.mp H
     obtain ⟨t116, A1100, H⟩ := H
     replace H : (if t116 = true then (if t109 = x10_24 then ((leaf_Compare.f kj24 a1_0 a1_1 a1_2 a0_0 a0_1 a0_2).bind fun t117 => (if t117 = (wrap64 (-t109)) then (if t109 > 0 then (some true) else (if t110 > 0 then (some true) else (some (decide (t111 ≤ 0))))) else (some false))) else (some false)) else (some false)) = some r := H
     have A110 := Aside0.mk A1100
     clear A1100
     by_cases c111 : t116 = true
     ·subst c111
      have H1 : (if t109 = x10_24 then ((leaf_Compare.f kj24 a1_0 a1_1 a1_2 a0_0 a0_1 a0_2).bind fun t117 => (if t117 = (wrap64 (-t109)) then (if t109 > 0 then (some true) else (if t110 > 0 then (some true) else (some (decide (t111 ≤ 0))))) else (some false))) else (some false)) = some r := by rw [if_pos rfl] at H; exact H
      clear H
      have H := H1
      clear H1
      by_cases c112 : t109 = x10_24
      ·rw [if_pos c112] at H
       have c112b0 : (t109 == x10_24) = true := beq_iff_eq.mpr c112
       have c112b1 : (t109 != x10_24) = false := bne_eq_false_iff_eq.mpr c112
       clear c112
       replace H := Option.bind_eq_some_iff.mp H
       obtain ⟨t117, A1130, H⟩ := H
       replace H : (if t117 = (wrap64 (-t109)) then (if t109 > 0 then (some true) else (if t110 > 0 then (some true) else (some (decide (t111 ≤ 0))))) else (some false)) = some r := H
       have A113 := Aside0.mk A1130
       clear A1130
       by_cases c114 : t117 = (wrap64 (-t109))
       ·rw [if_pos c114] at H
        have c114b0 : (t117 == (wrap64 (-t109))) = true := beq_iff_eq.mpr c114
        have c114b1 : (t117 != (wrap64 (-t109))) = false := bne_eq_false_iff_eq.mpr c114
        clear c114
        by_cases c115 : t109 > 0
        ·rw [if_pos c115] at H
         have c115b0 : decide (0 < t109) = true := decide_eq_true c115
         clear c115
         obtain rfl := Option.some.inj H
         have hnb116 := NB102_101.out
         have hnc116 := NB101_102.out
         have hnb117 := NB102_103.out
         have hnc117 := NB103_102.out
         have hcz118_0 : wc.cell? ⟨gb102, 0, none⟩ = some (.string a1_0) := (blk_cell BK102.out 0).trans rfl
         have hcz118_1 : wc.cell? ⟨gb102, 1, none⟩ = some (.int .u32 a1_1) := (blk_cell BK102.out 1).trans rfl
         have hcz118_2 : wc.cell? ⟨gb102, 2, none⟩ = some (.int .u16 a1_2) := (blk_cell BK102.out 2).trans rfl
         have hfz118_0 := blk_frozen BK102.out 0
         have hfz118_1 := blk_frozen BK102.out 1
         have hfz118_2 := blk_frozen BK102.out 2
         have hnb119 := NB101_103.out
         have hnc119 := NB103_101.out
         have hcz120_0 : wc.cell? ⟨gb101, 0, none⟩ = some (.string a0_0) := (blk_cell BK101.out 0).trans rfl
         have hcz120_1 : wc.cell? ⟨gb101, 1, none⟩ = some (.int .u32 a0_1) := (blk_cell BK101.out 1).trans rfl
         have hcz120_2 : wc.cell? ⟨gb101, 2, none⟩ = some (.int .u16 a0_2) := (blk_cell BK101.out 2).trans rfl
         have hfz120_0 := blk_frozen BK101.out 0
         have hfz120_1 := blk_frozen BK101.out 1
         have hfz120_2 := blk_frozen BK101.out 2
         go_wp2_with (first | ((with_reducible refine gate_callee (f := 12) rfl ?_); refine goesL_ (some 31) rfl rfl Try.func12 (by kernel_rfl) rfl #[.agg #[.string a1_0, .int .u32 a1_1, .int .u16 a1_2], .agg #[.string a0_0, .int .u32 a0_1, .int .u16 a0_2]] rfl (by (try simp only [List.map_toArray, List.map_cons, List.map_nil]); first | done | rfl | (simp only [List.length_drop, List.length_take]; rfl)) ?_; (with_reducible refine (rowlockref10_Less.calls a1_0 a1_1 a1_2 a0_0 a0_1 a0_2 false _ A47.out).mono ?_); rintro e w121 ⟨rfl, hb⟩; refine ⟨_, rfl, ?_⟩; have n0_ := Aside0.mk (blk_below (g := gb101) (o := .cells #[.string a0_0, .int .u32 a0_1, .int .u16 a0_2] 27 (0, 0)) (by (with_reducible repeat (first | refine blk_drewN ?_ _ | refine blk_drew ?_ | refine blk_alloc ?_ _)); exact BK101.out) hb); have n1_ := Aside0.mk (blk_below (g := gb102) (o := .cells #[.string a1_0, .int .u32 a1_1, .int .u16 a1_2] 27 (0, 0)) (by (with_reducible repeat (first | refine blk_drewN ?_ _ | refine blk_drew ?_ | refine blk_alloc ?_ _)); exact BK102.out) hb); have n2_ := Aside0.mk (blk_below (g := gb103) (o := .cells #[.string a2_0, .int .u32 a2_1, .int .u16 a2_2] 27 (0, 0)) (by (with_reducible repeat (first | refine blk_drewN ?_ _ | refine blk_drew ?_ | refine blk_alloc ?_ _)); exact BK103.out) hb); have n3_ := Aside0.mk (below_step (by repeat (first | (with_reducible first | exact HB.out | apply below_alloc | apply pw_below_drewN | apply below_drew1 | refine below_set ?_ GE101.out | refine below_set ?_ GE102.out | refine below_set ?_ GE103.out) | exact HB.out)) hb); clear BK101; clear BK102; clear BK103; clear HB; have BK101 := n0_; have BK102 := n1_; have BK103 := n2_; have HB := n3_; clear n0_ n1_ n2_ n3_; (try clear hb); (try clear hb2); (try clear hk); (try clear hi)) | ((with_reducible refine gate_callee (f := 10) rfl ?_); refine goesL_ (some 32) rfl rfl Try.func10 (by kernel_rfl) rfl #[] rfl (by (try simp only [List.map_toArray, List.map_cons, List.map_nil]); first | done | rfl | (simp only [List.length_drop, List.length_take]; rfl)) ?_; (with_reducible refine (rowlocklaw10_fixed.calls  true _ A110.out).mono ?_); rintro e w122 ⟨rfl, hb⟩; refine ⟨_, rfl, ?_⟩; have n0_ := Aside0.mk (blk_below (g := gb101) (o := .cells #[.string a0_0, .int .u32 a0_1, .int .u16 a0_2] 27 (0, 0)) (by (with_reducible repeat (first | refine blk_drewN ?_ _ | refine blk_drew ?_ | refine blk_alloc ?_ _)); exact BK101.out) hb); have n1_ := Aside0.mk (blk_below (g := gb102) (o := .cells #[.string a1_0, .int .u32 a1_1, .int .u16 a1_2] 27 (0, 0)) (by (with_reducible repeat (first | refine blk_drewN ?_ _ | refine blk_drew ?_ | refine blk_alloc ?_ _)); exact BK102.out) hb); have n2_ := Aside0.mk (blk_below (g := gb103) (o := .cells #[.string a2_0, .int .u32 a2_1, .int .u16 a2_2] 27 (0, 0)) (by (with_reducible repeat (first | refine blk_drewN ?_ _ | refine blk_drew ?_ | refine blk_alloc ?_ _)); exact BK103.out) hb); have n3_ := Aside0.mk (below_step (by repeat (first | (with_reducible first | exact HB.out | apply below_alloc | apply pw_below_drewN | apply below_drew1 | refine below_set ?_ GE101.out | refine below_set ?_ GE102.out | refine below_set ?_ GE103.out) | exact HB.out)) hb); clear BK101; clear BK102; clear BK103; clear HB; have BK101 := n0_; have BK102 := n1_; have BK103 := n2_; have HB := n3_; clear n0_ n1_ n2_ n3_; (try clear hb); (try clear hb2); (try clear hk); (try clear hi); have hcz123_0 : w122.cell? ⟨gb102, 0, none⟩ = some (.string a1_0) := (blk_cell BK102.out 0).trans rfl; have hcz123_1 : w122.cell? ⟨gb102, 1, none⟩ = some (.int .u32 a1_1) := (blk_cell BK102.out 1).trans rfl; have hcz123_2 : w122.cell? ⟨gb102, 2, none⟩ = some (.int .u16 a1_2) := (blk_cell BK102.out 2).trans rfl; have hfz123_0 := blk_frozen BK102.out 0; have hfz123_1 := blk_frozen BK102.out 1; have hfz123_2 := blk_frozen BK102.out 2; have hcz124_0 : w122.cell? ⟨gb101, 0, none⟩ = some (.string a0_0) := (blk_cell BK101.out 0).trans rfl; have hcz124_1 : w122.cell? ⟨gb101, 1, none⟩ = some (.int .u32 a0_1) := (blk_cell BK101.out 1).trans rfl; have hcz124_2 : w122.cell? ⟨gb101, 2, none⟩ = some (.int .u16 a0_2) := (blk_cell BK101.out 2).trans rfl; have hfz124_0 := blk_frozen BK101.out 0; have hfz124_1 := blk_frozen BK101.out 1; have hfz124_2 := blk_frozen BK101.out 2) | (go_at_call 11; (with_reducible refine (leaf_Compare.calls kj24 a1_0 a1_1 a1_2 a0_0 a0_1 a0_2 t117 _ A113.out).mono ?_); rintro e w125 ⟨rfl, hb⟩; have n0_ := Aside0.mk (blk_below (g := gb101) (o := .cells #[.string a0_0, .int .u32 a0_1, .int .u16 a0_2] 27 (0, 0)) (by (with_reducible repeat (first | refine blk_drewN ?_ _ | refine blk_drew ?_ | refine blk_alloc ?_ _)); exact BK101.out) hb); have n1_ := Aside0.mk (blk_below (g := gb102) (o := .cells #[.string a1_0, .int .u32 a1_1, .int .u16 a1_2] 27 (0, 0)) (by (with_reducible repeat (first | refine blk_drewN ?_ _ | refine blk_drew ?_ | refine blk_alloc ?_ _)); exact BK102.out) hb); have n2_ := Aside0.mk (blk_below (g := gb103) (o := .cells #[.string a2_0, .int .u32 a2_1, .int .u16 a2_2] 27 (0, 0)) (by (with_reducible repeat (first | refine blk_drewN ?_ _ | refine blk_drew ?_ | refine blk_alloc ?_ _)); exact BK103.out) hb); have n3_ := Aside0.mk (below_step (by repeat (first | (with_reducible first | exact HB.out | apply below_alloc | apply pw_below_drewN | apply below_drew1 | refine below_set ?_ GE101.out | refine below_set ?_ GE102.out | refine below_set ?_ GE103.out) | exact HB.out)) hb); clear BK101; clear BK102; clear BK103; clear HB; have BK101 := n0_; have BK102 := n1_; have BK103 := n2_; have HB := n3_; clear n0_ n1_ n2_ n3_; (try clear hb); (try clear hb2); (try clear hk); (try clear hi)))
         go_ret
         exact ⟨by first | rfl | (simp [errW_none, errW_some] <;> rfl) | (simp [*, errW_none, errW_some] <;> rfl), by repeat (first | (with_reducible first | exact HB.out | apply below_alloc | apply pw_below_drewN | apply below_drew1 | refine below_set ?_ GE101.out | refine below_set ?_ GE102.out | refine below_set ?_ GE103.out) | exact HB.out)⟩
        ·rw [if_neg c115] at H
         have c115b0 : decide (0 < t109) = false := decide_eq_false c115
         clear c115
         by_cases c126 : t110 > 0
         ·rw [if_pos c126] at H
          have c126b0 : decide (0 < t110) = true := decide_eq_true c126
          clear c126
          obtain rfl := Option.some.inj H
          have hnb127 := NB102_101.out
          have hnc127 := NB101_102.out
          have hnb128 := NB102_103.out
          have hnc128 := NB103_102.out
          have hcz129_0 : wc.cell? ⟨gb102, 0, none⟩ = some (.string a1_0) := (blk_cell BK102.out 0).trans rfl
          have hcz129_1 : wc.cell? ⟨gb102, 1, none⟩ = some (.int .u32 a1_1) := (blk_cell BK102.out 1).trans rfl
          have hcz129_2 : wc.cell? ⟨gb102, 2, none⟩ = some (.int .u16 a1_2) := (blk_cell BK102.out 2).trans rfl
          have hfz129_0 := blk_frozen BK102.out 0
          have hfz129_1 := blk_frozen BK102.out 1
          have hfz129_2 := blk_frozen BK102.out 2
          have hnb130 := NB101_103.out
          have hnc130 := NB103_101.out
          have hcz131_0 : wc.cell? ⟨gb101, 0, none⟩ = some (.string a0_0) := (blk_cell BK101.out 0).trans rfl
          have hcz131_1 : wc.cell? ⟨gb101, 1, none⟩ = some (.int .u32 a0_1) := (blk_cell BK101.out 1).trans rfl
          have hcz131_2 : wc.cell? ⟨gb101, 2, none⟩ = some (.int .u16 a0_2) := (blk_cell BK101.out 2).trans rfl
          have hfz131_0 := blk_frozen BK101.out 0
          have hfz131_1 := blk_frozen BK101.out 1
          have hfz131_2 := blk_frozen BK101.out 2
          go_wp2_with (first | ((with_reducible refine gate_callee (f := 12) rfl ?_); refine goesL_ (some 31) rfl rfl Try.func12 (by kernel_rfl) rfl #[.agg #[.string a1_0, .int .u32 a1_1, .int .u16 a1_2], .agg #[.string a0_0, .int .u32 a0_1, .int .u16 a0_2]] rfl (by (try simp only [List.map_toArray, List.map_cons, List.map_nil]); first | done | rfl | (simp only [List.length_drop, List.length_take]; rfl)) ?_; (with_reducible refine (rowlockref10_Less.calls a1_0 a1_1 a1_2 a0_0 a0_1 a0_2 false _ A47.out).mono ?_); rintro e w132 ⟨rfl, hb⟩; refine ⟨_, rfl, ?_⟩; have n0_ := Aside0.mk (blk_below (g := gb101) (o := .cells #[.string a0_0, .int .u32 a0_1, .int .u16 a0_2] 27 (0, 0)) (by (with_reducible repeat (first | refine blk_drewN ?_ _ | refine blk_drew ?_ | refine blk_alloc ?_ _)); exact BK101.out) hb); have n1_ := Aside0.mk (blk_below (g := gb102) (o := .cells #[.string a1_0, .int .u32 a1_1, .int .u16 a1_2] 27 (0, 0)) (by (with_reducible repeat (first | refine blk_drewN ?_ _ | refine blk_drew ?_ | refine blk_alloc ?_ _)); exact BK102.out) hb); have n2_ := Aside0.mk (blk_below (g := gb103) (o := .cells #[.string a2_0, .int .u32 a2_1, .int .u16 a2_2] 27 (0, 0)) (by (with_reducible repeat (first | refine blk_drewN ?_ _ | refine blk_drew ?_ | refine blk_alloc ?_ _)); exact BK103.out) hb); have n3_ := Aside0.mk (below_step (by repeat (first | (with_reducible first | exact HB.out | apply below_alloc | apply pw_below_drewN | apply below_drew1 | refine below_set ?_ GE101.out | refine below_set ?_ GE102.out | refine below_set ?_ GE103.out) | exact HB.out)) hb); clear BK101; clear BK102; clear BK103; clear HB; have BK101 := n0_; have BK102 := n1_; have BK103 := n2_; have HB := n3_; clear n0_ n1_ n2_ n3_; (try clear hb); (try clear hb2); (try clear hk); (try clear hi)) | ((with_reducible refine gate_callee (f := 10) rfl ?_); refine goesL_ (some 32) rfl rfl Try.func10 (by kernel_rfl) rfl #[] rfl (by (try simp only [List.map_toArray, List.map_cons, List.map_nil]); first | done | rfl | (simp only [List.length_drop, List.length_take]; rfl)) ?_; (with_reducible refine (rowlocklaw10_fixed.calls  true _ A110.out).mono ?_); rintro e w133 ⟨rfl, hb⟩; refine ⟨_, rfl, ?_⟩; have n0_ := Aside0.mk (blk_below (g := gb101) (o := .cells #[.string a0_0, .int .u32 a0_1, .int .u16 a0_2] 27 (0, 0)) (by (with_reducible repeat (first | refine blk_drewN ?_ _ | refine blk_drew ?_ | refine blk_alloc ?_ _)); exact BK101.out) hb); have n1_ := Aside0.mk (blk_below (g := gb102) (o := .cells #[.string a1_0, .int .u32 a1_1, .int .u16 a1_2] 27 (0, 0)) (by (with_reducible repeat (first | refine blk_drewN ?_ _ | refine blk_drew ?_ | refine blk_alloc ?_ _)); exact BK102.out) hb); have n2_ := Aside0.mk (blk_below (g := gb103) (o := .cells #[.string a2_0, .int .u32 a2_1, .int .u16 a2_2] 27 (0, 0)) (by (with_reducible repeat (first | refine blk_drewN ?_ _ | refine blk_drew ?_ | refine blk_alloc ?_ _)); exact BK103.out) hb); have n3_ := Aside0.mk (below_step (by repeat (first | (with_reducible first | exact HB.out | apply below_alloc | apply pw_below_drewN | apply below_drew1 | refine below_set ?_ GE101.out | refine below_set ?_ GE102.out | refine below_set ?_ GE103.out) | exact HB.out)) hb); clear BK101; clear BK102; clear BK103; clear HB; have BK101 := n0_; have BK102 := n1_; have BK103 := n2_; have HB := n3_; clear n0_ n1_ n2_ n3_; (try clear hb); (try clear hb2); (try clear hk); (try clear hi); have hcz134_0 : w133.cell? ⟨gb102, 0, none⟩ = some (.string a1_0) := (blk_cell BK102.out 0).trans rfl; have hcz134_1 : w133.cell? ⟨gb102, 1, none⟩ = some (.int .u32 a1_1) := (blk_cell BK102.out 1).trans rfl; have hcz134_2 : w133.cell? ⟨gb102, 2, none⟩ = some (.int .u16 a1_2) := (blk_cell BK102.out 2).trans rfl; have hfz134_0 := blk_frozen BK102.out 0; have hfz134_1 := blk_frozen BK102.out 1; have hfz134_2 := blk_frozen BK102.out 2; have hcz135_0 : w133.cell? ⟨gb101, 0, none⟩ = some (.string a0_0) := (blk_cell BK101.out 0).trans rfl; have hcz135_1 : w133.cell? ⟨gb101, 1, none⟩ = some (.int .u32 a0_1) := (blk_cell BK101.out 1).trans rfl; have hcz135_2 : w133.cell? ⟨gb101, 2, none⟩ = some (.int .u16 a0_2) := (blk_cell BK101.out 2).trans rfl; have hfz135_0 := blk_frozen BK101.out 0; have hfz135_1 := blk_frozen BK101.out 1; have hfz135_2 := blk_frozen BK101.out 2) | (go_at_call 11; (with_reducible refine (leaf_Compare.calls kj24 a1_0 a1_1 a1_2 a0_0 a0_1 a0_2 t117 _ A113.out).mono ?_); rintro e w136 ⟨rfl, hb⟩; have n0_ := Aside0.mk (blk_below (g := gb101) (o := .cells #[.string a0_0, .int .u32 a0_1, .int .u16 a0_2] 27 (0, 0)) (by (with_reducible repeat (first | refine blk_drewN ?_ _ | refine blk_drew ?_ | refine blk_alloc ?_ _)); exact BK101.out) hb); have n1_ := Aside0.mk (blk_below (g := gb102) (o := .cells #[.string a1_0, .int .u32 a1_1, .int .u16 a1_2] 27 (0, 0)) (by (with_reducible repeat (first | refine blk_drewN ?_ _ | refine blk_drew ?_ | refine blk_alloc ?_ _)); exact BK102.out) hb); have n2_ := Aside0.mk (blk_below (g := gb103) (o := .cells #[.string a2_0, .int .u32 a2_1, .int .u16 a2_2] 27 (0, 0)) (by (with_reducible repeat (first | refine blk_drewN ?_ _ | refine blk_drew ?_ | refine blk_alloc ?_ _)); exact BK103.out) hb); have n3_ := Aside0.mk (below_step (by repeat (first | (with_reducible first | exact HB.out | apply below_alloc | apply pw_below_drewN | apply below_drew1 | refine below_set ?_ GE101.out | refine below_set ?_ GE102.out | refine below_set ?_ GE103.out) | exact HB.out)) hb); clear BK101; clear BK102; clear BK103; clear HB; have BK101 := n0_; have BK102 := n1_; have BK103 := n2_; have HB := n3_; clear n0_ n1_ n2_ n3_; (try clear hb); (try clear hb2); (try clear hk); (try clear hi)))
          go_ret
          exact ⟨by first | rfl | (simp [errW_none, errW_some] <;> rfl) | (simp [*, errW_none, errW_some] <;> rfl), by repeat (first | (with_reducible first | exact HB.out | apply below_alloc | apply pw_below_drewN | apply below_drew1 | refine below_set ?_ GE101.out | refine below_set ?_ GE102.out | refine below_set ?_ GE103.out) | exact HB.out)⟩
         ·rw [if_neg c126] at H
          have c126b0 : decide (0 < t110) = false := decide_eq_false c126
          clear c126
          obtain rfl := Option.some.inj H
          have hnb137 := NB102_101.out
          have hnc137 := NB101_102.out
          have hnb138 := NB102_103.out
          have hnc138 := NB103_102.out
          have hcz139_0 : wc.cell? ⟨gb102, 0, none⟩ = some (.string a1_0) := (blk_cell BK102.out 0).trans rfl
          have hcz139_1 : wc.cell? ⟨gb102, 1, none⟩ = some (.int .u32 a1_1) := (blk_cell BK102.out 1).trans rfl
          have hcz139_2 : wc.cell? ⟨gb102, 2, none⟩ = some (.int .u16 a1_2) := (blk_cell BK102.out 2).trans rfl
          have hfz139_0 := blk_frozen BK102.out 0
          have hfz139_1 := blk_frozen BK102.out 1
          have hfz139_2 := blk_frozen BK102.out 2
          have hnb140 := NB101_103.out
          have hnc140 := NB103_101.out
          have hcz141_0 : wc.cell? ⟨gb101, 0, none⟩ = some (.string a0_0) := (blk_cell BK101.out 0).trans rfl
          have hcz141_1 : wc.cell? ⟨gb101, 1, none⟩ = some (.int .u32 a0_1) := (blk_cell BK101.out 1).trans rfl
          have hcz141_2 : wc.cell? ⟨gb101, 2, none⟩ = some (.int .u16 a0_2) := (blk_cell BK101.out 2).trans rfl
          have hfz141_0 := blk_frozen BK101.out 0
          have hfz141_1 := blk_frozen BK101.out 1
          have hfz141_2 := blk_frozen BK101.out 2
          go_wp2_with (first | ((with_reducible refine gate_callee (f := 12) rfl ?_); refine goesL_ (some 31) rfl rfl Try.func12 (by kernel_rfl) rfl #[.agg #[.string a1_0, .int .u32 a1_1, .int .u16 a1_2], .agg #[.string a0_0, .int .u32 a0_1, .int .u16 a0_2]] rfl (by (try simp only [List.map_toArray, List.map_cons, List.map_nil]); first | done | rfl | (simp only [List.length_drop, List.length_take]; rfl)) ?_; (with_reducible refine (rowlockref10_Less.calls a1_0 a1_1 a1_2 a0_0 a0_1 a0_2 false _ A47.out).mono ?_); rintro e w142 ⟨rfl, hb⟩; refine ⟨_, rfl, ?_⟩; have n0_ := Aside0.mk (blk_below (g := gb101) (o := .cells #[.string a0_0, .int .u32 a0_1, .int .u16 a0_2] 27 (0, 0)) (by (with_reducible repeat (first | refine blk_drewN ?_ _ | refine blk_drew ?_ | refine blk_alloc ?_ _)); exact BK101.out) hb); have n1_ := Aside0.mk (blk_below (g := gb102) (o := .cells #[.string a1_0, .int .u32 a1_1, .int .u16 a1_2] 27 (0, 0)) (by (with_reducible repeat (first | refine blk_drewN ?_ _ | refine blk_drew ?_ | refine blk_alloc ?_ _)); exact BK102.out) hb); have n2_ := Aside0.mk (blk_below (g := gb103) (o := .cells #[.string a2_0, .int .u32 a2_1, .int .u16 a2_2] 27 (0, 0)) (by (with_reducible repeat (first | refine blk_drewN ?_ _ | refine blk_drew ?_ | refine blk_alloc ?_ _)); exact BK103.out) hb); have n3_ := Aside0.mk (below_step (by repeat (first | (with_reducible first | exact HB.out | apply below_alloc | apply pw_below_drewN | apply below_drew1 | refine below_set ?_ GE101.out | refine below_set ?_ GE102.out | refine below_set ?_ GE103.out) | exact HB.out)) hb); clear BK101; clear BK102; clear BK103; clear HB; have BK101 := n0_; have BK102 := n1_; have BK103 := n2_; have HB := n3_; clear n0_ n1_ n2_ n3_; (try clear hb); (try clear hb2); (try clear hk); (try clear hi)) | ((with_reducible refine gate_callee (f := 10) rfl ?_); refine goesL_ (some 32) rfl rfl Try.func10 (by kernel_rfl) rfl #[] rfl (by (try simp only [List.map_toArray, List.map_cons, List.map_nil]); first | done | rfl | (simp only [List.length_drop, List.length_take]; rfl)) ?_; (with_reducible refine (rowlocklaw10_fixed.calls  true _ A110.out).mono ?_); rintro e w143 ⟨rfl, hb⟩; refine ⟨_, rfl, ?_⟩; have n0_ := Aside0.mk (blk_below (g := gb101) (o := .cells #[.string a0_0, .int .u32 a0_1, .int .u16 a0_2] 27 (0, 0)) (by (with_reducible repeat (first | refine blk_drewN ?_ _ | refine blk_drew ?_ | refine blk_alloc ?_ _)); exact BK101.out) hb); have n1_ := Aside0.mk (blk_below (g := gb102) (o := .cells #[.string a1_0, .int .u32 a1_1, .int .u16 a1_2] 27 (0, 0)) (by (with_reducible repeat (first | refine blk_drewN ?_ _ | refine blk_drew ?_ | refine blk_alloc ?_ _)); exact BK102.out) hb); have n2_ := Aside0.mk (blk_below (g := gb103) (o := .cells #[.string a2_0, .int .u32 a2_1, .int .u16 a2_2] 27 (0, 0)) (by (with_reducible repeat (first | refine blk_drewN ?_ _ | refine blk_drew ?_ | refine blk_alloc ?_ _)); exact BK103.out) hb); have n3_ := Aside0.mk (below_step (by repeat (first | (with_reducible first | exact HB.out | apply below_alloc | apply pw_below_drewN | apply below_drew1 | refine below_set ?_ GE101.out | refine below_set ?_ GE102.out | refine below_set ?_ GE103.out) | exact HB.out)) hb); clear BK101; clear BK102; clear BK103; clear HB; have BK101 := n0_; have BK102 := n1_; have BK103 := n2_; have HB := n3_; clear n0_ n1_ n2_ n3_; (try clear hb); (try clear hb2); (try clear hk); (try clear hi); have hcz144_0 : w143.cell? ⟨gb102, 0, none⟩ = some (.string a1_0) := (blk_cell BK102.out 0).trans rfl; have hcz144_1 : w143.cell? ⟨gb102, 1, none⟩ = some (.int .u32 a1_1) := (blk_cell BK102.out 1).trans rfl; have hcz144_2 : w143.cell? ⟨gb102, 2, none⟩ = some (.int .u16 a1_2) := (blk_cell BK102.out 2).trans rfl; have hfz144_0 := blk_frozen BK102.out 0; have hfz144_1 := blk_frozen BK102.out 1; have hfz144_2 := blk_frozen BK102.out 2; have hcz145_0 : w143.cell? ⟨gb101, 0, none⟩ = some (.string a0_0) := (blk_cell BK101.out 0).trans rfl; have hcz145_1 : w143.cell? ⟨gb101, 1, none⟩ = some (.int .u32 a0_1) := (blk_cell BK101.out 1).trans rfl; have hcz145_2 : w143.cell? ⟨gb101, 2, none⟩ = some (.int .u16 a0_2) := (blk_cell BK101.out 2).trans rfl; have hfz145_0 := blk_frozen BK101.out 0; have hfz145_1 := blk_frozen BK101.out 1; have hfz145_2 := blk_frozen BK101.out 2) | (go_at_call 11; (with_reducible refine (leaf_Compare.calls kj24 a1_0 a1_1 a1_2 a0_0 a0_1 a0_2 t117 _ A113.out).mono ?_); rintro e w146 ⟨rfl, hb⟩; have n0_ := Aside0.mk (blk_below (g := gb101) (o := .cells #[.string a0_0, .int .u32 a0_1, .int .u16 a0_2] 27 (0, 0)) (by (with_reducible repeat (first | refine blk_drewN ?_ _ | refine blk_drew ?_ | refine blk_alloc ?_ _)); exact BK101.out) hb); have n1_ := Aside0.mk (blk_below (g := gb102) (o := .cells #[.string a1_0, .int .u32 a1_1, .int .u16 a1_2] 27 (0, 0)) (by (with_reducible repeat (first | refine blk_drewN ?_ _ | refine blk_drew ?_ | refine blk_alloc ?_ _)); exact BK102.out) hb); have n2_ := Aside0.mk (blk_below (g := gb103) (o := .cells #[.string a2_0, .int .u32 a2_1, .int .u16 a2_2] 27 (0, 0)) (by (with_reducible repeat (first | refine blk_drewN ?_ _ | refine blk_drew ?_ | refine blk_alloc ?_ _)); exact BK103.out) hb); have n3_ := Aside0.mk (below_step (by repeat (first | (with_reducible first | exact HB.out | apply below_alloc | apply pw_below_drewN | apply below_drew1 | refine below_set ?_ GE101.out | refine below_set ?_ GE102.out | refine below_set ?_ GE103.out) | exact HB.out)) hb); clear BK101; clear BK102; clear BK103; clear HB; have BK101 := n0_; have BK102 := n1_; have BK103 := n2_; have HB := n3_; clear n0_ n1_ n2_ n3_; (try clear hb); (try clear hb2); (try clear hk); (try clear hi)))
          go_ret
          exact ⟨by first | rfl | (simp [errW_none, errW_some] <;> rfl) | (simp [*, errW_none, errW_some] <;> rfl), by repeat (first | (with_reducible first | exact HB.out | apply below_alloc | apply pw_below_drewN | apply below_drew1 | refine below_set ?_ GE101.out | refine below_set ?_ GE102.out | refine below_set ?_ GE103.out) | exact HB.out)⟩
       ·rw [if_neg c114] at H
        have c114b0 : (t117 == (wrap64 (-t109))) = false := beq_eq_false_iff_ne.mpr c114
        have c114b1 : (t117 != (wrap64 (-t109))) = true := bne_iff_ne.mpr c114
        obtain rfl := Option.some.inj H
        have hnb147 := NB102_101.out
        have hnc147 := NB101_102.out
        have hnb148 := NB102_103.out
        have hnc148 := NB103_102.out
        have hcz149_0 : wc.cell? ⟨gb102, 0, none⟩ = some (.string a1_0) := (blk_cell BK102.out 0).trans rfl
        have hcz149_1 : wc.cell? ⟨gb102, 1, none⟩ = some (.int .u32 a1_1) := (blk_cell BK102.out 1).trans rfl
        have hcz149_2 : wc.cell? ⟨gb102, 2, none⟩ = some (.int .u16 a1_2) := (blk_cell BK102.out 2).trans rfl
        have hfz149_0 := blk_frozen BK102.out 0
        have hfz149_1 := blk_frozen BK102.out 1
        have hfz149_2 := blk_frozen BK102.out 2
        have hnb150 := NB101_103.out
        have hnc150 := NB103_101.out
        have hcz151_0 : wc.cell? ⟨gb101, 0, none⟩ = some (.string a0_0) := (blk_cell BK101.out 0).trans rfl
        have hcz151_1 : wc.cell? ⟨gb101, 1, none⟩ = some (.int .u32 a0_1) := (blk_cell BK101.out 1).trans rfl
        have hcz151_2 : wc.cell? ⟨gb101, 2, none⟩ = some (.int .u16 a0_2) := (blk_cell BK101.out 2).trans rfl
        have hfz151_0 := blk_frozen BK101.out 0
        have hfz151_1 := blk_frozen BK101.out 1
        have hfz151_2 := blk_frozen BK101.out 2
        go_wp2_with (first | ((with_reducible refine gate_callee (f := 12) rfl ?_); refine goesL_ (some 31) rfl rfl Try.func12 (by kernel_rfl) rfl #[.agg #[.string a1_0, .int .u32 a1_1, .int .u16 a1_2], .agg #[.string a0_0, .int .u32 a0_1, .int .u16 a0_2]] rfl (by (try simp only [List.map_toArray, List.map_cons, List.map_nil]); first | done | rfl | (simp only [List.length_drop, List.length_take]; rfl)) ?_; (with_reducible refine (rowlockref10_Less.calls a1_0 a1_1 a1_2 a0_0 a0_1 a0_2 false _ A47.out).mono ?_); rintro e w152 ⟨rfl, hb⟩; refine ⟨_, rfl, ?_⟩; have n0_ := Aside0.mk (blk_below (g := gb101) (o := .cells #[.string a0_0, .int .u32 a0_1, .int .u16 a0_2] 27 (0, 0)) (by (with_reducible repeat (first | refine blk_drewN ?_ _ | refine blk_drew ?_ | refine blk_alloc ?_ _)); exact BK101.out) hb); have n1_ := Aside0.mk (blk_below (g := gb102) (o := .cells #[.string a1_0, .int .u32 a1_1, .int .u16 a1_2] 27 (0, 0)) (by (with_reducible repeat (first | refine blk_drewN ?_ _ | refine blk_drew ?_ | refine blk_alloc ?_ _)); exact BK102.out) hb); have n2_ := Aside0.mk (blk_below (g := gb103) (o := .cells #[.string a2_0, .int .u32 a2_1, .int .u16 a2_2] 27 (0, 0)) (by (with_reducible repeat (first | refine blk_drewN ?_ _ | refine blk_drew ?_ | refine blk_alloc ?_ _)); exact BK103.out) hb); have n3_ := Aside0.mk (below_step (by repeat (first | (with_reducible first | exact HB.out | apply below_alloc | apply pw_below_drewN | apply below_drew1 | refine below_set ?_ GE101.out | refine below_set ?_ GE102.out | refine below_set ?_ GE103.out) | exact HB.out)) hb); clear BK101; clear BK102; clear BK103; clear HB; have BK101 := n0_; have BK102 := n1_; have BK103 := n2_; have HB := n3_; clear n0_ n1_ n2_ n3_; (try clear hb); (try clear hb2); (try clear hk); (try clear hi)) | ((with_reducible refine gate_callee (f := 10) rfl ?_); refine goesL_ (some 32) rfl rfl Try.func10 (by kernel_rfl) rfl #[] rfl (by (try simp only [List.map_toArray, List.map_cons, List.map_nil]); first | done | rfl | (simp only [List.length_drop, List.length_take]; rfl)) ?_; (with_reducible refine (rowlocklaw10_fixed.calls  true _ A110.out).mono ?_); rintro e w153 ⟨rfl, hb⟩; refine ⟨_, rfl, ?_⟩; have n0_ := Aside0.mk (blk_below (g := gb101) (o := .cells #[.string a0_0, .int .u32 a0_1, .int .u16 a0_2] 27 (0, 0)) (by (with_reducible repeat (first | refine blk_drewN ?_ _ | refine blk_drew ?_ | refine blk_alloc ?_ _)); exact BK101.out) hb); have n1_ := Aside0.mk (blk_below (g := gb102) (o := .cells #[.string a1_0, .int .u32 a1_1, .int .u16 a1_2] 27 (0, 0)) (by (with_reducible repeat (first | refine blk_drewN ?_ _ | refine blk_drew ?_ | refine blk_alloc ?_ _)); exact BK102.out) hb); have n2_ := Aside0.mk (blk_below (g := gb103) (o := .cells #[.string a2_0, .int .u32 a2_1, .int .u16 a2_2] 27 (0, 0)) (by (with_reducible repeat (first | refine blk_drewN ?_ _ | refine blk_drew ?_ | refine blk_alloc ?_ _)); exact BK103.out) hb); have n3_ := Aside0.mk (below_step (by repeat (first | (with_reducible first | exact HB.out | apply below_alloc | apply pw_below_drewN | apply below_drew1 | refine below_set ?_ GE101.out | refine below_set ?_ GE102.out | refine below_set ?_ GE103.out) | exact HB.out)) hb); clear BK101; clear BK102; clear BK103; clear HB; have BK101 := n0_; have BK102 := n1_; have BK103 := n2_; have HB := n3_; clear n0_ n1_ n2_ n3_; (try clear hb); (try clear hb2); (try clear hk); (try clear hi); have hcz154_0 : w153.cell? ⟨gb102, 0, none⟩ = some (.string a1_0) := (blk_cell BK102.out 0).trans rfl; have hcz154_1 : w153.cell? ⟨gb102, 1, none⟩ = some (.int .u32 a1_1) := (blk_cell BK102.out 1).trans rfl; have hcz154_2 : w153.cell? ⟨gb102, 2, none⟩ = some (.int .u16 a1_2) := (blk_cell BK102.out 2).trans rfl; have hfz154_0 := blk_frozen BK102.out 0; have hfz154_1 := blk_frozen BK102.out 1; have hfz154_2 := blk_frozen BK102.out 2; have hcz155_0 : w153.cell? ⟨gb101, 0, none⟩ = some (.string a0_0) := (blk_cell BK101.out 0).trans rfl; have hcz155_1 : w153.cell? ⟨gb101, 1, none⟩ = some (.int .u32 a0_1) := (blk_cell BK101.out 1).trans rfl; have hcz155_2 : w153.cell? ⟨gb101, 2, none⟩ = some (.int .u16 a0_2) := (blk_cell BK101.out 2).trans rfl; have hfz155_0 := blk_frozen BK101.out 0; have hfz155_1 := blk_frozen BK101.out 1; have hfz155_2 := blk_frozen BK101.out 2) | (go_at_call 11; (with_reducible refine (leaf_Compare.calls kj24 a1_0 a1_1 a1_2 a0_0 a0_1 a0_2 t117 _ A113.out).mono ?_); rintro e w156 ⟨rfl, hb⟩; have n0_ := Aside0.mk (blk_below (g := gb101) (o := .cells #[.string a0_0, .int .u32 a0_1, .int .u16 a0_2] 27 (0, 0)) (by (with_reducible repeat (first | refine blk_drewN ?_ _ | refine blk_drew ?_ | refine blk_alloc ?_ _)); exact BK101.out) hb); have n1_ := Aside0.mk (blk_below (g := gb102) (o := .cells #[.string a1_0, .int .u32 a1_1, .int .u16 a1_2] 27 (0, 0)) (by (with_reducible repeat (first | refine blk_drewN ?_ _ | refine blk_drew ?_ | refine blk_alloc ?_ _)); exact BK102.out) hb); have n2_ := Aside0.mk (blk_below (g := gb103) (o := .cells #[.string a2_0, .int .u32 a2_1, .int .u16 a2_2] 27 (0, 0)) (by (with_reducible repeat (first | refine blk_drewN ?_ _ | refine blk_drew ?_ | refine blk_alloc ?_ _)); exact BK103.out) hb); have n3_ := Aside0.mk (below_step (by repeat (first | (with_reducible first | exact HB.out | apply below_alloc | apply pw_below_drewN | apply below_drew1 | refine below_set ?_ GE101.out | refine below_set ?_ GE102.out | refine below_set ?_ GE103.out) | exact HB.out)) hb); clear BK101; clear BK102; clear BK103; clear HB; have BK101 := n0_; have BK102 := n1_; have BK103 := n2_; have HB := n3_; clear n0_ n1_ n2_ n3_; (try clear hb); (try clear hb2); (try clear hk); (try clear hi)))
        go_ret
        exact ⟨by first | rfl | (simp [errW_none, errW_some] <;> rfl) | (simp [*, errW_none, errW_some] <;> rfl), by repeat (first | (with_reducible first | exact HB.out | apply below_alloc | apply pw_below_drewN | apply below_drew1 | refine below_set ?_ GE101.out | refine below_set ?_ GE102.out | refine below_set ?_ GE103.out) | exact HB.out)⟩
      ·rw [if_neg c112] at H
       have c112b0 : (t109 == x10_24) = false := beq_eq_false_iff_ne.mpr c112
       have c112b1 : (t109 != x10_24) = true := bne_iff_ne.mpr c112
       obtain rfl := Option.some.inj H
       have hnb157 := NB102_101.out
       have hnc157 := NB101_102.out
       have hnb158 := NB102_103.out
       have hnc158 := NB103_102.out
       have hcz159_0 : wc.cell? ⟨gb102, 0, none⟩ = some (.string a1_0) := (blk_cell BK102.out 0).trans rfl
       have hcz159_1 : wc.cell? ⟨gb102, 1, none⟩ = some (.int .u32 a1_1) := (blk_cell BK102.out 1).trans rfl
       have hcz159_2 : wc.cell? ⟨gb102, 2, none⟩ = some (.int .u16 a1_2) := (blk_cell BK102.out 2).trans rfl
       have hfz159_0 := blk_frozen BK102.out 0
       have hfz159_1 := blk_frozen BK102.out 1
       have hfz159_2 := blk_frozen BK102.out 2
       have hnb160 := NB101_103.out
       have hnc160 := NB103_101.out
       have hcz161_0 : wc.cell? ⟨gb101, 0, none⟩ = some (.string a0_0) := (blk_cell BK101.out 0).trans rfl
       have hcz161_1 : wc.cell? ⟨gb101, 1, none⟩ = some (.int .u32 a0_1) := (blk_cell BK101.out 1).trans rfl
       have hcz161_2 : wc.cell? ⟨gb101, 2, none⟩ = some (.int .u16 a0_2) := (blk_cell BK101.out 2).trans rfl
       have hfz161_0 := blk_frozen BK101.out 0
       have hfz161_1 := blk_frozen BK101.out 1
       have hfz161_2 := blk_frozen BK101.out 2
       go_wp2_with (first | ((with_reducible refine gate_callee (f := 12) rfl ?_); refine goesL_ (some 31) rfl rfl Try.func12 (by kernel_rfl) rfl #[.agg #[.string a1_0, .int .u32 a1_1, .int .u16 a1_2], .agg #[.string a0_0, .int .u32 a0_1, .int .u16 a0_2]] rfl (by (try simp only [List.map_toArray, List.map_cons, List.map_nil]); first | done | rfl | (simp only [List.length_drop, List.length_take]; rfl)) ?_; (with_reducible refine (rowlockref10_Less.calls a1_0 a1_1 a1_2 a0_0 a0_1 a0_2 false _ A47.out).mono ?_); rintro e w162 ⟨rfl, hb⟩; refine ⟨_, rfl, ?_⟩; have n0_ := Aside0.mk (blk_below (g := gb101) (o := .cells #[.string a0_0, .int .u32 a0_1, .int .u16 a0_2] 27 (0, 0)) (by (with_reducible repeat (first | refine blk_drewN ?_ _ | refine blk_drew ?_ | refine blk_alloc ?_ _)); exact BK101.out) hb); have n1_ := Aside0.mk (blk_below (g := gb102) (o := .cells #[.string a1_0, .int .u32 a1_1, .int .u16 a1_2] 27 (0, 0)) (by (with_reducible repeat (first | refine blk_drewN ?_ _ | refine blk_drew ?_ | refine blk_alloc ?_ _)); exact BK102.out) hb); have n2_ := Aside0.mk (blk_below (g := gb103) (o := .cells #[.string a2_0, .int .u32 a2_1, .int .u16 a2_2] 27 (0, 0)) (by (with_reducible repeat (first | refine blk_drewN ?_ _ | refine blk_drew ?_ | refine blk_alloc ?_ _)); exact BK103.out) hb); have n3_ := Aside0.mk (below_step (by repeat (first | (with_reducible first | exact HB.out | apply below_alloc | apply pw_below_drewN | apply below_drew1 | refine below_set ?_ GE101.out | refine below_set ?_ GE102.out | refine below_set ?_ GE103.out) | exact HB.out)) hb); clear BK101; clear BK102; clear BK103; clear HB; have BK101 := n0_; have BK102 := n1_; have BK103 := n2_; have HB := n3_; clear n0_ n1_ n2_ n3_; (try clear hb); (try clear hb2); (try clear hk); (try clear hi)) | ((with_reducible refine gate_callee (f := 10) rfl ?_); refine goesL_ (some 32) rfl rfl Try.func10 (by kernel_rfl) rfl #[] rfl (by (try simp only [List.map_toArray, List.map_cons, List.map_nil]); first | done | rfl | (simp only [List.length_drop, List.length_take]; rfl)) ?_; (with_reducible refine (rowlocklaw10_fixed.calls  true _ A110.out).mono ?_); rintro e w163 ⟨rfl, hb⟩; refine ⟨_, rfl, ?_⟩; have n0_ := Aside0.mk (blk_below (g := gb101) (o := .cells #[.string a0_0, .int .u32 a0_1, .int .u16 a0_2] 27 (0, 0)) (by (with_reducible repeat (first | refine blk_drewN ?_ _ | refine blk_drew ?_ | refine blk_alloc ?_ _)); exact BK101.out) hb); have n1_ := Aside0.mk (blk_below (g := gb102) (o := .cells #[.string a1_0, .int .u32 a1_1, .int .u16 a1_2] 27 (0, 0)) (by (with_reducible repeat (first | refine blk_drewN ?_ _ | refine blk_drew ?_ | refine blk_alloc ?_ _)); exact BK102.out) hb); have n2_ := Aside0.mk (blk_below (g := gb103) (o := .cells #[.string a2_0, .int .u32 a2_1, .int .u16 a2_2] 27 (0, 0)) (by (with_reducible repeat (first | refine blk_drewN ?_ _ | refine blk_drew ?_ | refine blk_alloc ?_ _)); exact BK103.out) hb); have n3_ := Aside0.mk (below_step (by repeat (first | (with_reducible first | exact HB.out | apply below_alloc | apply pw_below_drewN | apply below_drew1 | refine below_set ?_ GE101.out | refine below_set ?_ GE102.out | refine below_set ?_ GE103.out) | exact HB.out)) hb); clear BK101; clear BK102; clear BK103; clear HB; have BK101 := n0_; have BK102 := n1_; have BK103 := n2_; have HB := n3_; clear n0_ n1_ n2_ n3_; (try clear hb); (try clear hb2); (try clear hk); (try clear hi)))
       go_ret
       exact ⟨by first | rfl | (simp [errW_none, errW_some] <;> rfl) | (simp [*, errW_none, errW_some] <;> rfl), by repeat (first | (with_reducible first | exact HB.out | apply below_alloc | apply pw_below_drewN | apply below_drew1 | refine below_set ?_ GE101.out | refine below_set ?_ GE102.out | refine below_set ?_ GE103.out) | exact HB.out)⟩
     ·replace c111 := Bool.eq_false_iff.mpr c111
      subst c111
      have H1 : (some false) = some r := by rw [if_neg (show ¬ (false = true) by decide)] at H; exact H
      clear H
      have H := H1
      clear H1
      obtain rfl := Option.some.inj H
      have hnb164 := NB102_101.out
      have hnc164 := NB101_102.out
      have hnb165 := NB102_103.out
      have hnc165 := NB103_102.out
      have hcz166_0 : wc.cell? ⟨gb102, 0, none⟩ = some (.string a1_0) := (blk_cell BK102.out 0).trans rfl
      have hcz166_1 : wc.cell? ⟨gb102, 1, none⟩ = some (.int .u32 a1_1) := (blk_cell BK102.out 1).trans rfl
      have hcz166_2 : wc.cell? ⟨gb102, 2, none⟩ = some (.int .u16 a1_2) := (blk_cell BK102.out 2).trans rfl
      have hfz166_0 := blk_frozen BK102.out 0
      have hfz166_1 := blk_frozen BK102.out 1
      have hfz166_2 := blk_frozen BK102.out 2
      have hnb167 := NB101_103.out
      have hnc167 := NB103_101.out
      have hcz168_0 : wc.cell? ⟨gb101, 0, none⟩ = some (.string a0_0) := (blk_cell BK101.out 0).trans rfl
      have hcz168_1 : wc.cell? ⟨gb101, 1, none⟩ = some (.int .u32 a0_1) := (blk_cell BK101.out 1).trans rfl
      have hcz168_2 : wc.cell? ⟨gb101, 2, none⟩ = some (.int .u16 a0_2) := (blk_cell BK101.out 2).trans rfl
      have hfz168_0 := blk_frozen BK101.out 0
      have hfz168_1 := blk_frozen BK101.out 1
      have hfz168_2 := blk_frozen BK101.out 2
      go_wp2_with (first | ((with_reducible refine gate_callee (f := 12) rfl ?_); refine goesL_ (some 31) rfl rfl Try.func12 (by kernel_rfl) rfl #[.agg #[.string a1_0, .int .u32 a1_1, .int .u16 a1_2], .agg #[.string a0_0, .int .u32 a0_1, .int .u16 a0_2]] rfl (by (try simp only [List.map_toArray, List.map_cons, List.map_nil]); first | done | rfl | (simp only [List.length_drop, List.length_take]; rfl)) ?_; (with_reducible refine (rowlockref10_Less.calls a1_0 a1_1 a1_2 a0_0 a0_1 a0_2 false _ A47.out).mono ?_); rintro e w169 ⟨rfl, hb⟩; refine ⟨_, rfl, ?_⟩; have n0_ := Aside0.mk (blk_below (g := gb101) (o := .cells #[.string a0_0, .int .u32 a0_1, .int .u16 a0_2] 27 (0, 0)) (by (with_reducible repeat (first | refine blk_drewN ?_ _ | refine blk_drew ?_ | refine blk_alloc ?_ _)); exact BK101.out) hb); have n1_ := Aside0.mk (blk_below (g := gb102) (o := .cells #[.string a1_0, .int .u32 a1_1, .int .u16 a1_2] 27 (0, 0)) (by (with_reducible repeat (first | refine blk_drewN ?_ _ | refine blk_drew ?_ | refine blk_alloc ?_ _)); exact BK102.out) hb); have n2_ := Aside0.mk (blk_below (g := gb103) (o := .cells #[.string a2_0, .int .u32 a2_1, .int .u16 a2_2] 27 (0, 0)) (by (with_reducible repeat (first | refine blk_drewN ?_ _ | refine blk_drew ?_ | refine blk_alloc ?_ _)); exact BK103.out) hb); have n3_ := Aside0.mk (below_step (by repeat (first | (with_reducible first | exact HB.out | apply below_alloc | apply pw_below_drewN | apply below_drew1 | refine below_set ?_ GE101.out | refine below_set ?_ GE102.out | refine below_set ?_ GE103.out) | exact HB.out)) hb); clear BK101; clear BK102; clear BK103; clear HB; have BK101 := n0_; have BK102 := n1_; have BK103 := n2_; have HB := n3_; clear n0_ n1_ n2_ n3_; (try clear hb); (try clear hb2); (try clear hk); (try clear hi)) | ((with_reducible refine gate_callee (f := 10) rfl ?_); refine goesL_ (some 32) rfl rfl Try.func10 (by kernel_rfl) rfl #[] rfl (by (try simp only [List.map_toArray, List.map_cons, List.map_nil]); first | done | rfl | (simp only [List.length_drop, List.length_take]; rfl)) ?_; (with_reducible refine (rowlocklaw10_fixed.calls  false _ A110.out).mono ?_); rintro e w170 ⟨rfl, hb⟩; refine ⟨_, rfl, ?_⟩; have n0_ := Aside0.mk (blk_below (g := gb101) (o := .cells #[.string a0_0, .int .u32 a0_1, .int .u16 a0_2] 27 (0, 0)) (by (with_reducible repeat (first | refine blk_drewN ?_ _ | refine blk_drew ?_ | refine blk_alloc ?_ _)); exact BK101.out) hb); have n1_ := Aside0.mk (blk_below (g := gb102) (o := .cells #[.string a1_0, .int .u32 a1_1, .int .u16 a1_2] 27 (0, 0)) (by (with_reducible repeat (first | refine blk_drewN ?_ _ | refine blk_drew ?_ | refine blk_alloc ?_ _)); exact BK102.out) hb); have n2_ := Aside0.mk (blk_below (g := gb103) (o := .cells #[.string a2_0, .int .u32 a2_1, .int .u16 a2_2] 27 (0, 0)) (by (with_reducible repeat (first | refine blk_drewN ?_ _ | refine blk_drew ?_ | refine blk_alloc ?_ _)); exact BK103.out) hb); have n3_ := Aside0.mk (below_step (by repeat (first | (with_reducible first | exact HB.out | apply below_alloc | apply pw_below_drewN | apply below_drew1 | refine below_set ?_ GE101.out | refine below_set ?_ GE102.out | refine below_set ?_ GE103.out) | exact HB.out)) hb); clear BK101; clear BK102; clear BK103; clear HB; have BK101 := n0_; have BK102 := n1_; have BK103 := n2_; have HB := n3_; clear n0_ n1_ n2_ n3_; (try clear hb); (try clear hb2); (try clear hk); (try clear hi)))
      go_ret
      exact ⟨by first | rfl | (simp [errW_none, errW_some] <;> rfl) | (simp [*, errW_none, errW_some] <;> rfl), by repeat (first | (with_reducible first | exact HB.out | apply below_alloc | apply pw_below_drewN | apply below_drew1 | refine below_set ?_ GE101.out | refine below_set ?_ GE102.out | refine below_set ?_ GE103.out) | exact HB.out)⟩

/-! ### leaf_Child: function 13 -/

end Go.Proofs.Ytihmkdjambdfjaa.XLeaf
