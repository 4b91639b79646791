-- Written by this session's own program (wip/own_print.py) over the kit's print, with this session's hand-proved contracts in their places; Lean checks it.
import Derived.Test.YtpfegfkniilobaaXSchemax0
import Derived.Test.YtpfegfkniilobaaBs
namespace Go.Proofs.Ytpfegfkniilobaa.XSchema
open Go.RowKit Go.Proofs.YtpfegfkniilobaaW.PrintWords Go.Proofs.YtpfegfkniilobaaW.PrintLast Go.Proofs.YtpfegfkniilobaaW.PrintMore
attribute [local go_sem] max2_int min2_int max_two min_two max_three min_three max_four min_four   -- for this text's walks alone
set_option linter.unusedVariables false
set_option linter.unusedSimpArgs false

/-! ### rowlockref12_Great: function 26 -/
mutual
def rowlockref12_Great.l0 : Nat → Int → Int → Int → List (S84) → List (S135) → Option (Bool)
 | 0, _, _, _, _, _ => none
 | k + 1, x3, x9, x10, x102000, x102001 => if x10 < x9 then (if 0 ≤ x10 then (if x10 < (x102000.length : Int) then (rowlockref12_Great.l1 k (wrap64 (x3 + (1 + (mn (((rd_T84 x102000 x10).f0).size : Int) 3000)))) x10 x9 x10 (((rd_T84 x102000 x10).f1).length : Int) 0 x102000 x102001) else (none)) else (none)) else (rowlockref12_Great.l2 k x3 (x102001.length : Int) 0 x102000 x102001)
def rowlockref12_Great.l1 : Nat → Int → Int → Int → Int → Int → Int → List (S84) → List (S135) → Option (Bool)
 | 0, _, _, _, _, _, _, _, _ => none
 | k + 1, x3, x4, x9, x10, x30, x31, x102000, x102001 => if x31 < x30 then (if 0 ≤ x4 then (if x4 < (x102000.length : Int) then (if 0 ≤ x31 then (if x31 < (((rd_T84 x102000 x4).f1).length : Int) then (if (wrap64 (x3 + (1 + (mn (((rd_T87 ((rd_T84 x102000 x4).f1) x31).f0).size : Int) 3000)))) > 3000 then (some true) else (rowlockref12_Great.l1 k (wrap64 (x3 + (1 + (mn (((rd_T87 ((rd_T84 x102000 x4).f1) x31).f0).size : Int) 3000)))) x4 x9 x10 x30 (wrap64 (x31 + 1)) x102000 x102001)) else (none)) else (none)) else (none)) else (none)) else (rowlockref12_Great.l0 k x3 x9 (wrap64 (x10 + 1)) x102000 x102001)
def rowlockref12_Great.l2 : Nat → Int → Int → Int → List (S84) → List (S135) → Option (Bool)
 | 0, _, _, _, _, _ => none
 | k + 1, x3, x55, x56, x102000, x102001 => if x56 < x55 then (if 0 ≤ x56 then (if x56 < (x102001.length : Int) then (if (wrap64 (x3 + (((1 + (mn (((rd_T135 x102001 x56).f0).size : Int) 3000)) + (mn (((rd_T135 x102001 x56).f2).length : Int) 3000)) + (mn (((rd_T135 x102001 x56).f6).length : Int) 3000)))) > 6000 then (some true) else (rowlockref12_Great.l2 k (wrap64 (x3 + (((1 + (mn (((rd_T135 x102001 x56).f0).size : Int) 3000)) + (mn (((rd_T135 x102001 x56).f2).length : Int) 3000)) + (mn (((rd_T135 x102001 x56).f6).length : Int) 3000)))) x55 (wrap64 (x56 + 1)) x102000 x102001)) else (none)) else (none)) else (some (decide (x3 > 6000)))
end
def rowlockref12_Great.f (k : Nat) (l0_0 : List (S84)) (l0_1 : List (S135)) : Option (Bool) := rowlockref12_Great.l0 k 0 (l0_0.length : Int) 0 l0_0 l0_1
theorem rowlockref12_Great.mono_l : ∀ k, (∀ y0 y1 y2 y3 y4, LeO (rowlockref12_Great.l0 k y0 y1 y2 y3 y4) (rowlockref12_Great.l0 (k + 1) y0 y1 y2 y3 y4)) ∧ (∀ y0 y1 y2 y3 y4 y5 y6 y7, LeO (rowlockref12_Great.l1 k y0 y1 y2 y3 y4 y5 y6 y7) (rowlockref12_Great.l1 (k + 1) y0 y1 y2 y3 y4 y5 y6 y7)) ∧ (∀ y0 y1 y2 y3 y4, LeO (rowlockref12_Great.l2 k y0 y1 y2 y3 y4) (rowlockref12_Great.l2 (k + 1) y0 y1 y2 y3 y4))
 | 0 => ⟨fun _ _ _ _ _ r h => by simp [rowlockref12_Great.l0] at h, fun _ _ _ _ _ _ _ _ r h => by simp [rowlockref12_Great.l1] at h, fun _ _ _ _ _ r h => by simp [rowlockref12_Great.l2] at h⟩
 | k + 1 => by
  obtain ⟨ih0, ih1, ih2⟩ := rowlockref12_Great.mono_l k; refine ⟨?_, ?_, ?_⟩
  ·intro y0 y1 y2 y3 y4
   unfold rowlockref12_Great.l0
   repeat' first
   | (with_reducible exact ih0 _ _ _ _ _)
   | (with_reducible exact ih1 _ _ _ _ _ _ _ _)
   | (with_reducible exact ih2 _ _ _ _ _)
   | (with_reducible exact LeO.refl _)
   | (with_reducible exact LeO.none _)
   | (with_reducible refine LeO.ite ?_ ?_)
   | (with_reducible refine LeO.bind ?_ (fun _ => ?_))
   | exact ih0 _ _ _ _ _
   | exact ih1 _ _ _ _ _ _ _ _
   | exact ih2 _ _ _ _ _
   | exact LeO.none _
   | refine LeO.ite ?_ ?_
   | refine LeO.bind ?_ (fun _ => ?_)
  ·intro y0 y1 y2 y3 y4 y5 y6 y7
   unfold rowlockref12_Great.l1
   repeat' first
   | (with_reducible exact ih0 _ _ _ _ _)
   | (with_reducible exact ih1 _ _ _ _ _ _ _ _)
   | (with_reducible exact ih2 _ _ _ _ _)
   | (with_reducible exact LeO.refl _)
   | (with_reducible exact LeO.none _)
   | (with_reducible refine LeO.ite ?_ ?_)
   | (with_reducible refine LeO.bind ?_ (fun _ => ?_))
   | exact ih0 _ _ _ _ _
   | exact ih1 _ _ _ _ _ _ _ _
   | exact ih2 _ _ _ _ _
   | exact LeO.none _
   | refine LeO.ite ?_ ?_
   | refine LeO.bind ?_ (fun _ => ?_)
  ·intro y0 y1 y2 y3 y4
   unfold rowlockref12_Great.l2
   repeat' first
   | (with_reducible exact ih0 _ _ _ _ _)
   | (with_reducible exact ih1 _ _ _ _ _ _ _ _)
   | (with_reducible exact ih2 _ _ _ _ _)
   | (with_reducible exact LeO.refl _)
   | (with_reducible exact LeO.none _)
   | (with_reducible refine LeO.ite ?_ ?_)
   | (with_reducible refine LeO.bind ?_ (fun _ => ?_))
   | exact ih0 _ _ _ _ _
   | exact ih1 _ _ _ _ _ _ _ _
   | exact ih2 _ _ _ _ _
   | exact LeO.none _
   | refine LeO.ite ?_ ?_
   | refine LeO.bind ?_ (fun _ => ?_)
theorem rowlockref12_Great.mono : ∀ a0 a1 k, LeO (rowlockref12_Great.f k a0 a1) (rowlockref12_Great.f (k + 1) a0 a1) := by
 intro a0 a1 k; obtain ⟨ih0, ih1, ih2⟩ := rowlockref12_Great.mono_l k
 unfold rowlockref12_Great.f
 repeat' first
   | (with_reducible exact ih0 _ _ _ _ _)
   | (with_reducible exact ih1 _ _ _ _ _ _ _ _)
   | (with_reducible exact ih2 _ _ _ _ _)
   | (with_reducible exact LeO.refl _)
   | (with_reducible exact LeO.none _)
   | (with_reducible refine LeO.ite ?_ ?_)
   | (with_reducible refine LeO.bind ?_ (fun _ => ?_))
   | exact ih0 _ _ _ _ _
   | exact ih1 _ _ _ _ _ _ _ _
   | exact ih2 _ _ _ _ _
   | exact LeO.none _
   | refine LeO.ite ?_ ?_
   | refine LeO.bind ?_ (fun _ => ?_)
set_option maxHeartbeats 8000000 in
set_option maxRecDepth 100000 in
theorem rowlockref12_Great.calls (k : Nat) (A0_0 : Option Addr) (c0_0 : Nat) (l0_0 : List (S84)) (A0_1 : Option Addr) (c0_1 : Nat) (l0_1 : List (S135)) (r : Bool) (w : World) (hr0_0 : Kd.C k84 w A0_0 l0_0.length l0_0) (hc0_0 : l0_0.length ≤ c0_0) (hr0_1 : Kd.C k135 w A0_1 l0_1.length l0_1) (hc0_1 : l0_1.length ≤ c0_1) (h : rowlockref12_Great.f k l0_0 l0_1 = some r) :
  Calls Try.prog 26 #[.agg #[.slice A0_0 l0_0.length c0_0, .slice A0_1 l0_1.length c0_1]] w fun e w' => e = .returned (.bool r) ∧ Below w.heap.size w w' := by
 have hu80 := Try.underlying80; have HR0_0 := Aside0.mk hr0_0; have HC0_0 := Aside0.mk hc0_0; clear hr0_0 hc0_0; have HR0_1 := Aside0.mk hr0_1; have HC0_1 := Aside0.mk hc0_1; clear hr0_1 hc0_1; have HB := Aside0.mk (Below.refl w.heap.size w); have H : (rowlockref12_Great.l0 k 0 (l0_0.length : Int) 0 l0_0 l0_1) = some r := h; clear h; have H' := Aside0.mk H; clear H
 go_enter Try.func26, Try.ntmps26
 go_wp2_with (first | ((with_reducible refine gate_dst (N := 1) rfl ?_); refine box_event ?hg (N := 1) ?hd (cs := #[.slice A0_0 l0_0.length c0_0, .slice A0_1 l0_1.length c0_1]) (t := 80) ?hr ?_; (case hd => rfl); (case hg => rfl); (case hr => first | (go_simp; done) | (go_simp; rfl)); intro gb101 hg w2 hbox hb; have n0_ := Aside0.mk (below_step HB.out hb); have n1_ := Aside0.mk (hbox); have n2_ := Aside0.mk ((by rw [hg]; exact (below_size HB.out) : w.heap.size ≤ gb101)); have n3_ := Aside0.mk ((by rw [hg]; exact (below_size HB.out) : w.heap.size ≤ gb101)); clear HB; have HB := n0_; have BK101 := n1_; have GW101 := n2_; have GE101 := n3_; clear n0_ n1_ n2_ n3_; clear hb hbox hg; have hcz3_0 := (blk_cell BK101.out 0).trans rfl; have hcz3_1 := (blk_cell BK101.out 1).trans rfl; have hfz3_0 := blk_frozen BK101.out 0; have hfz3_1 := blk_frozen BK101.out 1))
 repeat (go_quiet (first | ((with_reducible refine gate_dst (N := 1) rfl ?_); refine box_event ?hg (N := 1) ?hd (cs := #[.slice A0_0 l0_0.length c0_0, .slice A0_1 l0_1.length c0_1]) (t := 80) ?hr ?_; (case hd => rfl); (case hg => rfl); (case hr => first | (go_simp; done) | (go_simp; rfl)); intro gb101 hg w2 hbox hb; have n0_ := Aside0.mk (below_step HB.out hb); have n1_ := Aside0.mk (hbox); have n2_ := Aside0.mk ((by rw [hg]; exact (below_size HB.out) : w.heap.size ≤ gb101)); have n3_ := Aside0.mk ((by rw [hg]; exact (below_size HB.out) : w.heap.size ≤ gb101)); clear HB; have HB := n0_; have BK101 := n1_; have GW101 := n2_; have GE101 := n3_; clear n0_ n1_ n2_ n3_; clear hb hbox hg; have hcz3_0 := (blk_cell BK101.out 0).trans rfl; have hcz3_1 := (blk_cell BK101.out 1).trans rfl; have hfz3_0 := blk_frozen BK101.out 0; have hfz3_1 := blk_frozen BK101.out 1)); try go_wp2_with (first | ((with_reducible refine gate_dst (N := 1) rfl ?_); refine box_event ?hg (N := 1) ?hd (cs := #[.slice A0_0 l0_0.length c0_0, .slice A0_1 l0_1.length c0_1]) (t := 80) ?hr ?_; (case hd => rfl); (case hg => rfl); (case hr => first | (go_simp; done) | (go_simp; rfl)); intro gb101 hg w2 hbox hb; have n0_ := Aside0.mk (below_step HB.out hb); have n1_ := Aside0.mk (hbox); have n2_ := Aside0.mk ((by rw [hg]; exact (below_size HB.out) : w.heap.size ≤ gb101)); have n3_ := Aside0.mk ((by rw [hg]; exact (below_size HB.out) : w.heap.size ≤ gb101)); clear HB; have HB := n0_; have BK101 := n1_; have GW101 := n2_; have GE101 := n3_; clear n0_ n1_ n2_ n3_; clear hb hbox hg; have hcz3_0 := (blk_cell BK101.out 0).trans rfl; have hcz3_1 := (blk_cell BK101.out 1).trans rfl; have hfz3_0 := blk_frozen BK101.out 0; have hfz3_1 := blk_frozen BK101.out 1)))
 go_loopg [3, 10] k (fun kq v3 v10 w' => ∃ (x3_1 : Int) (x10_1 : Int), v3 = .int .i64 x3_1 ∧ v10 = .int .i64 x10_1 ∧ Aside0 (rowlockref12_Great.l0 kq x3_1 (l0_0.length : Int) x10_1 l0_0 l0_1 = some r) ∧ Aside0 (kq ≤ k) ∧ Aside0 (w'.heap[gb101]? = some (.cells #[(.slice A0_0 l0_0.length c0_0), (.slice A0_1 l0_1.length c0_1)] 80 (0, 0))) ∧ Aside0 (Below w.heap.size w w'))
 case atStart => exact ⟨(0), (0), (by first | rfl | (simp; done) | (simp [*]; done)), (by first | rfl | (simp; done) | (simp [*]; done)), H', ⟨Nat.le_refl _⟩, ⟨by (with_reducible repeat (first | refine blk_drewN ?_ _ | refine blk_drew ?_ | refine blk_alloc ?_ _)); exact BK101.out⟩, ⟨by repeat (first | (with_reducible first | exact HB.out | apply below_alloc | apply pw_below_drewN | apply below_drew1 | refine below_set ?_ GE101.out) | exact HB.out)⟩⟩
 case round =>
  clear H'; (try clear c2); (try clear p2); (try clear hcz3_0); (try clear hcz3_1); (try clear hfz3_0); (try clear hfz3_1); obtain ⟨x3_1, x10_1, rfl, rfl, HA, HK1, BK101, HB⟩ := hrel
  cases gk with
  | zero => exact absurd HA.out (by simp [rowlockref12_Great.l0])
  | succ k1 =>
   have H := HA.out; clear HA; simp only [rowlockref12_Great.l0] at H
   by_cases c4 : x10_1 < (l0_0.length : Int)
   ·rw [if_pos c4] at H
    have c4b0 : decide (x10_1 < (l0_0.length : Int)) = true := decide_eq_true c4; clear c4
    by_cases c5 : 0 ≤ x10_1
    ·rw [if_pos c5] at H
     have c5b0 : decide (0 ≤ x10_1) = true := decide_eq_true c5; clear c5
     by_cases c6 : x10_1 < (l0_0.length : Int)
     ·rw [if_pos c6] at H
      have c6b0 : decide (x10_1 < (l0_0.length : Int)) = true := decide_eq_true c6; clear c6; obtain ⟨ji7, hji7⟩ : ∃ j_ : Int, (mn (((rd_T84 l0_0 x10_1).f0).size : Int) 3000) = j_ := ⟨_, rfl⟩; replace H : (rowlockref12_Great.l1 k1 (wrap64 (x3_1 + (1 + (ji7)))) x10_1 (l0_0.length : Int) x10_1 (((rd_T84 l0_0 x10_1).f1).length : Int) 0 l0_0 l0_1) = some r := by first | (rw [hji7] at H; exact H) | (simp only [hji7] at H ⊢; exact H)
      have hji7_ : (if 3000 < (((rd_T84 l0_0 x10_1).f0).size : Int) then 3000 else (((rd_T84 l0_0 x10_1).f0).size : Int)) = ji7 := hji7; have H' := Aside0.mk H; clear H; have hcz8_0 := (blk_cell BK101.out 0).trans rfl; have hcz8_1 := (blk_cell BK101.out 1).trans rfl; have hfz8_0 := blk_frozen BK101.out 0; have hfz8_1 := blk_frozen BK101.out 1; have p102 : 0 ≤ (x10_1 : Int) := of_decide_eq_true (by first | (with_reducible assumption) | assumption); have q102 : x10_1 < (l0_0.length : Int) := of_decide_eq_true (by first | (with_reducible assumption) | assumption); obtain ⟨ad102, A102_1, c102_1, e102, hx102_0, hx102_1, hx102_2, hx102_3, hx102_4, hl102_1, hi102_1⟩ := at_T84 HR0_0.out x10_1 p102 q102
      cases e102
      replace hx102_0 := (HB.out.cell (World.block_lt_of_cell? w _ hx102_0)).trans hx102_0; replace hx102_1 := (HB.out.cell (World.block_lt_of_cell? w _ hx102_1)).trans hx102_1; replace hx102_2 := (HB.out.cell (World.block_lt_of_cell? w _ hx102_2)).trans hx102_2; replace hx102_3 := (HB.out.cell (World.block_lt_of_cell? w _ hx102_3)).trans hx102_3; replace hx102_4 := (HB.out.cell (World.block_lt_of_cell? w _ hx102_4)).trans hx102_4; have HR102_1 := Aside0.mk hi102_1; have HC102_1 := Aside0.mk hl102_1; clear hi102_1 hl102_1; replace p102 := eq_true p102; have p102D := p102; try simp only [List.length_drop, List.length_take] at p102D
      replace q102 := eq_true q102; have q102D := q102; try simp only [List.length_drop, List.length_take] at q102D
      have p103 : 0 ≤ (x10_1 : Int) := of_decide_eq_true (by first | (with_reducible assumption) | assumption); have q103 : x10_1 < (l0_0.length : Int) := of_decide_eq_true (by first | (with_reducible assumption) | assumption); obtain ⟨ad103, A103_1, c103_1, e103, hx103_0, hx103_1, hx103_2, hx103_3, hx103_4, hl103_1, hi103_1⟩ := at_T84 HR0_0.out x10_1 p103 q103; obtain rfl : ad102 = ad103 := (by injection e103); replace hx103_0 := (HB.out.cell (World.block_lt_of_cell? w _ hx103_0)).trans hx103_0; replace hx103_1 := (HB.out.cell (World.block_lt_of_cell? w _ hx103_1)).trans hx103_1; replace hx103_2 := (HB.out.cell (World.block_lt_of_cell? w _ hx103_2)).trans hx103_2; replace hx103_3 := (HB.out.cell (World.block_lt_of_cell? w _ hx103_3)).trans hx103_3; replace hx103_4 := (HB.out.cell (World.block_lt_of_cell? w _ hx103_4)).trans hx103_4; have HR103_1 := Aside0.mk hi103_1; have HC103_1 := Aside0.mk hl103_1; clear hi103_1 hl103_1; replace p103 := eq_true p103; have p103D := p103; try simp only [List.length_drop, List.length_take] at p103D
      replace q103 := eq_true q103; have q103D := q103; try simp only [List.length_drop, List.length_take] at q103D
      have ea_ := Option.some.inj (hx102_1.symm.trans hx103_1)
      injection ea_ with ea_ en_ ec_
      subst ea_; subst ec_; clear en_
      go_wp2
      repeat (go_quiet (fail); try go_wp2)
      go_loopg [3, 31] k1 (fun kq v3 v31 w' => ∃ (x3_2 : Int) (x31_2 : Int), v3 = .int .i64 x3_2 ∧ v31 = .int .i64 x31_2 ∧ Aside0 (rowlockref12_Great.l1 kq x3_2 x10_1 (l0_0.length : Int) x10_1 (((rd_T84 l0_0 x10_1).f1).length : Int) x31_2 l0_0 l0_1 = some r) ∧ Aside0 (kq ≤ k1) ∧ Aside0 (w'.heap[gb101]? = some (.cells #[(.slice (some ad102) l0_0.length c0_0), (.slice A0_1 l0_1.length c0_1)] 80 (0, 0))) ∧ Aside0 (Below w.heap.size w w'))
      case atStart => exact ⟨(wrap64 (x3_1 + (1 + (ji7)))), (0), (by first | rfl | (simp; done) | (simp only [← hji7] <;> (first | rfl | simp)) | (simp [*]; done)), (by first | rfl | (simp; done) | (simp [*]; done)), H', ⟨Nat.le_refl _⟩, ⟨by (with_reducible repeat (first | refine blk_drewN ?_ _ | refine blk_drew ?_ | refine blk_alloc ?_ _)); exact BK101.out⟩, ⟨by repeat (first | (with_reducible first | exact HB.out | apply below_alloc | apply pw_below_drewN | apply below_drew1 | refine below_set ?_ GE101.out) | exact HB.out)⟩⟩
      case round =>
       clear H'; (try clear c1); (try clear p1); (try clear q1); (try clear hx1); (try clear c2); (try clear p2); (try clear c4); (try clear c4b0); (try clear c5); (try clear c5b0); (try clear c6); (try clear c6b0); (try clear p6); (try clear hcz3_0); (try clear hcz3_1); (try clear hcz8_0); (try clear hcz8_1); (try clear hfz3_0); (try clear hfz3_1); (try clear hfz8_0); (try clear hfz8_1); (try clear hx102_0); (try clear hx102_1); (try clear hx102_2); (try clear hx102_3); (try clear hx102_4); (try clear hx103_0); (try clear hx103_1); (try clear hx103_2); (try clear hx103_3); (try clear hx103_4); (try clear p102); (try clear p103); (try clear p2); (try clear q102); (try clear q103); obtain ⟨x3_2, x31_2, rfl, rfl, HA, HK2, BK101, HB⟩ := hrel
       cases gk with
       | zero => exact absurd HA.out (by simp [rowlockref12_Great.l1])
       | succ k2 =>
        have H := HA.out; clear HA; simp only [rowlockref12_Great.l1] at H
        by_cases c9 : x31_2 < (((rd_T84 l0_0 x10_1).f1).length : Int)
        ·rw [if_pos c9] at H
         have c9b0 : decide (x31_2 < (((rd_T84 l0_0 x10_1).f1).length : Int)) = true := decide_eq_true c9; clear c9
         by_cases c10 : 0 ≤ x10_1
         ·rw [if_pos c10] at H
          have c10b0 : decide (0 ≤ x10_1) = true := decide_eq_true c10; clear c10
          by_cases c11 : x10_1 < (l0_0.length : Int)
          ·rw [if_pos c11] at H
           have c11b0 : decide (x10_1 < (l0_0.length : Int)) = true := decide_eq_true c11; clear c11
           by_cases c12 : 0 ≤ x31_2
           ·rw [if_pos c12] at H
            have c12b0 : decide (0 ≤ x31_2) = true := decide_eq_true c12; clear c12
            by_cases c13 : x31_2 < (((rd_T84 l0_0 x10_1).f1).length : Int)
            ·rw [if_pos c13] at H
             have c13b0 : decide (x31_2 < (((rd_T84 l0_0 x10_1).f1).length : Int)) = true := decide_eq_true c13; clear c13; obtain ⟨ji14, hji14⟩ : ∃ j_ : Int, (mn (((rd_T87 ((rd_T84 l0_0 x10_1).f1) x31_2).f0).size : Int) 3000) = j_ := ⟨_, rfl⟩; replace H : (if (wrap64 (x3_2 + (1 + (ji14)))) > 3000 then (some true) else (rowlockref12_Great.l1 k2 (wrap64 (x3_2 + (1 + (ji14)))) x10_1 (l0_0.length : Int) x10_1 (((rd_T84 l0_0 x10_1).f1).length : Int) (wrap64 (x31_2 + 1)) l0_0 l0_1)) = some r := by first | (rw [hji14] at H; exact H) | (simp only [hji14] at H ⊢; exact H)
             have hji14_ : (if 3000 < (((rd_T87 ((rd_T84 l0_0 x10_1).f1) x31_2).f0).size : Int) then 3000 else (((rd_T87 ((rd_T84 l0_0 x10_1).f1) x31_2).f0).size : Int)) = ji14 := hji14
             by_cases c15 : (wrap64 (x3_2 + (1 + (ji14)))) > 3000
             ·rw [if_pos c15] at H
              have c15b0 : decide (3000 < (wrap64 (x3_2 + (1 + (ji14))))) = true := decide_eq_true c15; clear c15; obtain rfl := Option.some.inj H; have hcz16_0 := (blk_cell BK101.out 0).trans rfl; have hcz16_1 := (blk_cell BK101.out 1).trans rfl; have hfz16_0 := blk_frozen BK101.out 0; have hfz16_1 := blk_frozen BK101.out 1; have p104 : 0 ≤ (x10_1 : Int) := of_decide_eq_true (by first | (with_reducible assumption) | assumption); have q104 : x10_1 < (l0_0.length : Int) := of_decide_eq_true (by first | (with_reducible assumption) | assumption); obtain ⟨ad104, A104_1, c104_1, e104, hx104_0, hx104_1, hx104_2, hx104_3, hx104_4, hl104_1, hi104_1⟩ := at_T84 HR0_0.out x10_1 p104 q104; obtain rfl : ad102 = ad104 := (by injection e104); replace hx104_0 := (HB.out.cell (World.block_lt_of_cell? w _ hx104_0)).trans hx104_0; replace hx104_1 := (HB.out.cell (World.block_lt_of_cell? w _ hx104_1)).trans hx104_1; replace hx104_2 := (HB.out.cell (World.block_lt_of_cell? w _ hx104_2)).trans hx104_2; replace hx104_3 := (HB.out.cell (World.block_lt_of_cell? w _ hx104_3)).trans hx104_3; replace hx104_4 := (HB.out.cell (World.block_lt_of_cell? w _ hx104_4)).trans hx104_4; have HR104_1 := Aside0.mk hi104_1; have HC104_1 := Aside0.mk hl104_1; clear hi104_1 hl104_1; replace p104 := eq_true p104; have p104D := p104; try simp only [List.length_drop, List.length_take] at p104D
              replace q104 := eq_true q104; have q104D := q104; try simp only [List.length_drop, List.length_take] at q104D
              have p105 : 0 ≤ (x31_2 : Int) := of_decide_eq_true (by first | (with_reducible assumption) | assumption); have q105 : x31_2 < (((rd_T84 l0_0 x10_1).f1).length : Int) := of_decide_eq_true (by first | (with_reducible assumption) | assumption); obtain ⟨ad105, e105, hx105_0, hx105_1, hx105_2, hx105_3⟩ := at_T87 HR104_1.out x31_2 p105 q105
              cases e105
              replace hx105_0 := (HB.out.cell (World.block_lt_of_cell? w _ hx105_0)).trans hx105_0; replace hx105_1 := (HB.out.cell (World.block_lt_of_cell? w _ hx105_1)).trans hx105_1; replace hx105_2 := (HB.out.cell (World.block_lt_of_cell? w _ hx105_2)).trans hx105_2; replace hx105_3 := (HB.out.cell (World.block_lt_of_cell? w _ hx105_3)).trans hx105_3; replace p105 := eq_true p105; have p105D := p105; try simp only [List.length_drop, List.length_take] at p105D
              replace q105 := eq_true q105; have q105D := q105; try simp only [List.length_drop, List.length_take] at q105D
              go_wp2
              repeat (go_quiet (fail); try go_wp2)
              go_ret
              exact ⟨by first | rfl | (simp [errW_none, errW_some] <;> rfl) | (simp only [← hji7, ← hji14]; first | rfl | (simp [errW_none, errW_some] <;> rfl)) | (simp [*, errW_none, errW_some] <;> rfl), by repeat (first | (with_reducible first | exact HB.out | apply below_alloc | apply pw_below_drewN | apply below_drew1 | refine below_set ?_ GE101.out) | exact HB.out)⟩
             ·rw [if_neg c15] at H
              have c15b0 : decide (3000 < (wrap64 (x3_2 + (1 + (ji14))))) = false := decide_eq_false c15; clear c15; have H' := Aside0.mk H; clear H; have hcz17_0 := (blk_cell BK101.out 0).trans rfl; have hcz17_1 := (blk_cell BK101.out 1).trans rfl; have hfz17_0 := blk_frozen BK101.out 0; have hfz17_1 := blk_frozen BK101.out 1; have p104 : 0 ≤ (x10_1 : Int) := of_decide_eq_true (by first | (with_reducible assumption) | assumption); have q104 : x10_1 < (l0_0.length : Int) := of_decide_eq_true (by first | (with_reducible assumption) | assumption); obtain ⟨ad104, A104_1, c104_1, e104, hx104_0, hx104_1, hx104_2, hx104_3, hx104_4, hl104_1, hi104_1⟩ := at_T84 HR0_0.out x10_1 p104 q104; obtain rfl : ad102 = ad104 := (by injection e104); replace hx104_0 := (HB.out.cell (World.block_lt_of_cell? w _ hx104_0)).trans hx104_0; replace hx104_1 := (HB.out.cell (World.block_lt_of_cell? w _ hx104_1)).trans hx104_1; replace hx104_2 := (HB.out.cell (World.block_lt_of_cell? w _ hx104_2)).trans hx104_2; replace hx104_3 := (HB.out.cell (World.block_lt_of_cell? w _ hx104_3)).trans hx104_3; replace hx104_4 := (HB.out.cell (World.block_lt_of_cell? w _ hx104_4)).trans hx104_4; have HR104_1 := Aside0.mk hi104_1; have HC104_1 := Aside0.mk hl104_1; clear hi104_1 hl104_1; replace p104 := eq_true p104; have p104D := p104; try simp only [List.length_drop, List.length_take] at p104D
              replace q104 := eq_true q104; have q104D := q104; try simp only [List.length_drop, List.length_take] at q104D
              have p105 : 0 ≤ (x31_2 : Int) := of_decide_eq_true (by first | (with_reducible assumption) | assumption); have q105 : x31_2 < (((rd_T84 l0_0 x10_1).f1).length : Int) := of_decide_eq_true (by first | (with_reducible assumption) | assumption); obtain ⟨ad105, e105, hx105_0, hx105_1, hx105_2, hx105_3⟩ := at_T87 HR104_1.out x31_2 p105 q105
              cases e105
              replace hx105_0 := (HB.out.cell (World.block_lt_of_cell? w _ hx105_0)).trans hx105_0; replace hx105_1 := (HB.out.cell (World.block_lt_of_cell? w _ hx105_1)).trans hx105_1; replace hx105_2 := (HB.out.cell (World.block_lt_of_cell? w _ hx105_2)).trans hx105_2; replace hx105_3 := (HB.out.cell (World.block_lt_of_cell? w _ hx105_3)).trans hx105_3; replace p105 := eq_true p105; have p105D := p105; try simp only [List.length_drop, List.length_take] at p105D
              replace q105 := eq_true q105; have q105D := q105; try simp only [List.length_drop, List.length_take] at q105D
              go_wp2
              repeat (go_quiet (fail); try go_wp2)
              go_roundg k2
              case measure => have := HK1.out; have := HK2.out; omega
              case rel => exact ⟨(wrap64 (x3_2 + (1 + (ji14)))), (wrap64 (x31_2 + 1)), (by first | rfl | (simp; done) | (simp only [← hji14] <;> (first | rfl | simp)) | (simp [*]; done)), (by first | rfl | (simp; done) | (simp [*]; done)), H', ⟨by have := HK1.out; have := HK2.out; omega⟩, ⟨by (with_reducible repeat (first | refine blk_drewN ?_ _ | refine blk_drew ?_ | refine blk_alloc ?_ _)); exact BK101.out⟩, ⟨by repeat (first | (with_reducible first | exact HB.out | apply below_alloc | apply pw_below_drewN | apply below_drew1 | refine below_set ?_ GE101.out) | exact HB.out)⟩⟩
            ·rw [if_neg c13] at H
             exact absurd H (by simp)
           ·rw [if_neg c12] at H
            exact absurd H (by simp)
          ·rw [if_neg c11] at H
           exact absurd H (by simp)
         ·rw [if_neg c10] at H
          exact absurd H (by simp)
        ·rw [if_neg c9] at H
         have c9b0 : decide (x31_2 < (((rd_T84 l0_0 x10_1).f1).length : Int)) = false := decide_eq_false c9; clear c9; have H' := Aside0.mk H; clear H
         go_wp2
         repeat (go_quiet (fail); try go_wp2)
         go_roundg k2
         case measure => have := HK1.out; have := HK2.out; omega
         case rel => exact ⟨(x3_2), (wrap64 (x10_1 + 1)), (by first | rfl | (simp; done) | (simp [*]; done)), (by first | rfl | (simp; done) | (simp [*]; done)), H', ⟨by have := HK1.out; have := HK2.out; omega⟩, ⟨by (with_reducible repeat (first | refine blk_drewN ?_ _ | refine blk_drew ?_ | refine blk_alloc ?_ _)); exact BK101.out⟩, ⟨by repeat (first | (with_reducible first | exact HB.out | apply below_alloc | apply pw_below_drewN | apply below_drew1 | refine below_set ?_ GE101.out) | exact HB.out)⟩⟩
     ·rw [if_neg c6] at H
      exact absurd H (by simp)
    ·rw [if_neg c5] at H
     exact absurd H (by simp)
   ·rw [if_neg c4] at H
    have c4b0 : decide (x10_1 < (l0_0.length : Int)) = false := decide_eq_false c4; clear c4; have H' := Aside0.mk H; clear H; have hcz18_0 := (blk_cell BK101.out 0).trans rfl; have hcz18_1 := (blk_cell BK101.out 1).trans rfl; have hfz18_0 := blk_frozen BK101.out 0; have hfz18_1 := blk_frozen BK101.out 1
    go_wp2
    repeat (go_quiet (fail); try go_wp2)
    go_loopg [3, 56] k1 (fun kq v3 v56 w' => ∃ (x3_2 : Int) (x56_2 : Int), v3 = .int .i64 x3_2 ∧ v56 = .int .i64 x56_2 ∧ Aside0 (rowlockref12_Great.l2 kq x3_2 (l0_1.length : Int) x56_2 l0_0 l0_1 = some r) ∧ Aside0 (kq ≤ k1) ∧ Aside0 (w'.heap[gb101]? = some (.cells #[(.slice A0_0 l0_0.length c0_0), (.slice A0_1 l0_1.length c0_1)] 80 (0, 0))) ∧ Aside0 (Below w.heap.size w w'))
    case atStart => exact ⟨(x3_1), (0), (by first | rfl | (simp; done) | (simp [*]; done)), (by first | rfl | (simp; done) | (simp [*]; done)), H', ⟨Nat.le_refl _⟩, ⟨by (with_reducible repeat (first | refine blk_drewN ?_ _ | refine blk_drew ?_ | refine blk_alloc ?_ _)); exact BK101.out⟩, ⟨by repeat (first | (with_reducible first | exact HB.out | apply below_alloc | apply pw_below_drewN | apply below_drew1 | refine below_set ?_ GE101.out) | exact HB.out)⟩⟩
    case round =>
     clear H'; (try clear c1); (try clear p1); (try clear q1); (try clear hx1); (try clear c2); (try clear p2); (try clear c4); (try clear c4b0); (try clear c5); (try clear c5b0); (try clear c6); (try clear c6b0); (try clear p6); (try clear c9); (try clear c9b0); (try clear c10); (try clear c10b0); (try clear p10); (try clear q10); (try clear hx10); (try clear c11); (try clear c11b0); (try clear c12); (try clear c12b0); (try clear c13); (try clear c13b0); (try clear c15); (try clear c15b0); (try clear hcz16_0); (try clear hcz16_1); (try clear hcz17_0); (try clear hcz17_1); (try clear hcz18_0); (try clear hcz18_1); (try clear hcz3_0); (try clear hcz3_1); (try clear hcz8_0); (try clear hcz8_1); (try clear hfz16_0); (try clear hfz16_1); (try clear hfz17_0); (try clear hfz17_1); (try clear hfz18_0); (try clear hfz18_1); (try clear hfz3_0); (try clear hfz3_1); (try clear hfz8_0); (try clear hfz8_1); (try clear hx102_0); (try clear hx102_1); (try clear hx102_2); (try clear hx102_3); (try clear hx102_4); (try clear hx103_0); (try clear hx103_1); (try clear hx103_2); (try clear hx103_3); (try clear hx103_4); (try clear hx104_0); (try clear hx104_1); (try clear hx104_2); (try clear hx104_3); (try clear hx104_4); (try clear hx105_0); (try clear hx105_1); (try clear hx105_2); (try clear hx105_3); (try clear p1); (try clear p102); (try clear p103); (try clear p104); (try clear p105); (try clear p2); (try clear p6); (try clear q1); (try clear q102); (try clear q103); (try clear q104); (try clear q105); obtain ⟨x3_2, x56_2, rfl, rfl, HA, HK2, BK101, HB⟩ := hrel
     cases gk with
     | zero => exact absurd HA.out (by simp [rowlockref12_Great.l2])
     | succ k2 =>
      have H := HA.out; clear HA; simp only [rowlockref12_Great.l2] at H
      by_cases c19 : x56_2 < (l0_1.length : Int)
      ·rw [if_pos c19] at H
       have c19b0 : decide (x56_2 < (l0_1.length : Int)) = true := decide_eq_true c19; clear c19
       by_cases c20 : 0 ≤ x56_2
       ·rw [if_pos c20] at H
        have c20b0 : decide (0 ≤ x56_2) = true := decide_eq_true c20; clear c20
        by_cases c21 : x56_2 < (l0_1.length : Int)
        ·rw [if_pos c21] at H
         have c21b0 : decide (x56_2 < (l0_1.length : Int)) = true := decide_eq_true c21; clear c21; obtain ⟨ji22, hji22⟩ : ∃ j_ : Int, (mn (((rd_T135 l0_1 x56_2).f0).size : Int) 3000) = j_ := ⟨_, rfl⟩; replace H : (if (wrap64 (x3_2 + (((1 + (ji22)) + (mn (((rd_T135 l0_1 x56_2).f2).length : Int) 3000)) + (mn (((rd_T135 l0_1 x56_2).f6).length : Int) 3000)))) > 6000 then (some true) else (rowlockref12_Great.l2 k2 (wrap64 (x3_2 + (((1 + (ji22)) + (mn (((rd_T135 l0_1 x56_2).f2).length : Int) 3000)) + (mn (((rd_T135 l0_1 x56_2).f6).length : Int) 3000)))) (l0_1.length : Int) (wrap64 (x56_2 + 1)) l0_0 l0_1)) = some r := by first | (rw [hji22] at H; exact H) | (simp only [hji22] at H ⊢; exact H)
         have hji22_ : (if 3000 < (((rd_T135 l0_1 x56_2).f0).size : Int) then 3000 else (((rd_T135 l0_1 x56_2).f0).size : Int)) = ji22 := hji22; obtain ⟨ji23, hji23⟩ : ∃ j_ : Int, (mn (((rd_T135 l0_1 x56_2).f2).length : Int) 3000) = j_ := ⟨_, rfl⟩; replace H : (if (wrap64 (x3_2 + (((1 + (ji22)) + (ji23)) + (mn (((rd_T135 l0_1 x56_2).f6).length : Int) 3000)))) > 6000 then (some true) else (rowlockref12_Great.l2 k2 (wrap64 (x3_2 + (((1 + (ji22)) + (ji23)) + (mn (((rd_T135 l0_1 x56_2).f6).length : Int) 3000)))) (l0_1.length : Int) (wrap64 (x56_2 + 1)) l0_0 l0_1)) = some r := by first | (rw [hji23] at H; exact H) | (simp only [hji23] at H ⊢; exact H)
         have hji23_ : (if 3000 < (((rd_T135 l0_1 x56_2).f2).length : Int) then 3000 else (((rd_T135 l0_1 x56_2).f2).length : Int)) = ji23 := hji23; obtain ⟨ji24, hji24⟩ : ∃ j_ : Int, (mn (((rd_T135 l0_1 x56_2).f6).length : Int) 3000) = j_ := ⟨_, rfl⟩; replace H : (if (wrap64 (x3_2 + (((1 + (ji22)) + (ji23)) + (ji24)))) > 6000 then (some true) else (rowlockref12_Great.l2 k2 (wrap64 (x3_2 + (((1 + (ji22)) + (ji23)) + (ji24)))) (l0_1.length : Int) (wrap64 (x56_2 + 1)) l0_0 l0_1)) = some r := by first | (rw [hji24] at H; exact H) | (simp only [hji24] at H ⊢; exact H)
         have hji24_ : (if 3000 < (((rd_T135 l0_1 x56_2).f6).length : Int) then 3000 else (((rd_T135 l0_1 x56_2).f6).length : Int)) = ji24 := hji24
         by_cases c25 : (wrap64 (x3_2 + (((1 + (ji22)) + (ji23)) + (ji24)))) > 6000
         ·rw [if_pos c25] at H
          have c25b0 : decide (6000 < (wrap64 (x3_2 + (((1 + (ji22)) + (ji23)) + (ji24))))) = true := decide_eq_true c25; clear c25; obtain rfl := Option.some.inj H; have hcz26_0 := (blk_cell BK101.out 0).trans rfl; have hcz26_1 := (blk_cell BK101.out 1).trans rfl; have hfz26_0 := blk_frozen BK101.out 0; have hfz26_1 := blk_frozen BK101.out 1; have p106 : 0 ≤ (x56_2 : Int) := of_decide_eq_true (by first | (with_reducible assumption) | assumption); have q106 : x56_2 < (l0_1.length : Int) := of_decide_eq_true (by first | (with_reducible assumption) | assumption); obtain ⟨ad106, A106_2, c106_2, A106_6, c106_6, e106, hx106_0, hx106_1, hx106_2, hx106_3, hx106_4, hx106_5, hx106_6, hl106_2, hi106_2, hl106_6, hi106_6⟩ := at_T135 HR0_1.out x56_2 p106 q106
          cases e106
          replace hx106_0 := (HB.out.cell (World.block_lt_of_cell? w _ hx106_0)).trans hx106_0; replace hx106_1 := (HB.out.cell (World.block_lt_of_cell? w _ hx106_1)).trans hx106_1; replace hx106_2 := (HB.out.cell (World.block_lt_of_cell? w _ hx106_2)).trans hx106_2; replace hx106_3 := (HB.out.cell (World.block_lt_of_cell? w _ hx106_3)).trans hx106_3; replace hx106_4 := (HB.out.cell (World.block_lt_of_cell? w _ hx106_4)).trans hx106_4; replace hx106_5 := (HB.out.cell (World.block_lt_of_cell? w _ hx106_5)).trans hx106_5; replace hx106_6 := (HB.out.cell (World.block_lt_of_cell? w _ hx106_6)).trans hx106_6; have HR106_2 := Aside0.mk hi106_2; have HC106_2 := Aside0.mk hl106_2; clear hi106_2 hl106_2; have HR106_6 := Aside0.mk hi106_6; have HC106_6 := Aside0.mk hl106_6; clear hi106_6 hl106_6; replace p106 := eq_true p106; have p106D := p106; try simp only [List.length_drop, List.length_take] at p106D
          replace q106 := eq_true q106; have q106D := q106; try simp only [List.length_drop, List.length_take] at q106D
          have p107 : 0 ≤ (x56_2 : Int) := of_decide_eq_true (by first | (with_reducible assumption) | assumption); have q107 : x56_2 < (l0_1.length : Int) := of_decide_eq_true (by first | (with_reducible assumption) | assumption); obtain ⟨ad107, A107_2, c107_2, A107_6, c107_6, e107, hx107_0, hx107_1, hx107_2, hx107_3, hx107_4, hx107_5, hx107_6, hl107_2, hi107_2, hl107_6, hi107_6⟩ := at_T135 HR0_1.out x56_2 p107 q107; obtain rfl : ad106 = ad107 := (by injection e107); replace hx107_0 := (HB.out.cell (World.block_lt_of_cell? w _ hx107_0)).trans hx107_0; replace hx107_1 := (HB.out.cell (World.block_lt_of_cell? w _ hx107_1)).trans hx107_1; replace hx107_2 := (HB.out.cell (World.block_lt_of_cell? w _ hx107_2)).trans hx107_2; replace hx107_3 := (HB.out.cell (World.block_lt_of_cell? w _ hx107_3)).trans hx107_3; replace hx107_4 := (HB.out.cell (World.block_lt_of_cell? w _ hx107_4)).trans hx107_4; replace hx107_5 := (HB.out.cell (World.block_lt_of_cell? w _ hx107_5)).trans hx107_5; replace hx107_6 := (HB.out.cell (World.block_lt_of_cell? w _ hx107_6)).trans hx107_6; have HR107_2 := Aside0.mk hi107_2; have HC107_2 := Aside0.mk hl107_2; clear hi107_2 hl107_2; have HR107_6 := Aside0.mk hi107_6; have HC107_6 := Aside0.mk hl107_6; clear hi107_6 hl107_6; replace p107 := eq_true p107; have p107D := p107; try simp only [List.length_drop, List.length_take] at p107D
          replace q107 := eq_true q107; have q107D := q107; try simp only [List.length_drop, List.length_take] at q107D
          have ea_ := Option.some.inj (hx106_2.symm.trans hx107_2)
          injection ea_ with ea_ en_ ec_
          subst ea_; subst ec_; clear en_; have ea_ := Option.some.inj (hx106_6.symm.trans hx107_6)
          injection ea_ with ea_ en_ ec_
          subst ea_; subst ec_; clear en_; have p108 : 0 ≤ (x56_2 : Int) := of_decide_eq_true (by first | (with_reducible assumption) | assumption); have q108 : x56_2 < (l0_1.length : Int) := of_decide_eq_true (by first | (with_reducible assumption) | assumption); obtain ⟨ad108, A108_2, c108_2, A108_6, c108_6, e108, hx108_0, hx108_1, hx108_2, hx108_3, hx108_4, hx108_5, hx108_6, hl108_2, hi108_2, hl108_6, hi108_6⟩ := at_T135 HR0_1.out x56_2 p108 q108; obtain rfl : ad106 = ad108 := (by injection e108); replace hx108_0 := (HB.out.cell (World.block_lt_of_cell? w _ hx108_0)).trans hx108_0; replace hx108_1 := (HB.out.cell (World.block_lt_of_cell? w _ hx108_1)).trans hx108_1; replace hx108_2 := (HB.out.cell (World.block_lt_of_cell? w _ hx108_2)).trans hx108_2; replace hx108_3 := (HB.out.cell (World.block_lt_of_cell? w _ hx108_3)).trans hx108_3; replace hx108_4 := (HB.out.cell (World.block_lt_of_cell? w _ hx108_4)).trans hx108_4; replace hx108_5 := (HB.out.cell (World.block_lt_of_cell? w _ hx108_5)).trans hx108_5; replace hx108_6 := (HB.out.cell (World.block_lt_of_cell? w _ hx108_6)).trans hx108_6; have HR108_2 := Aside0.mk hi108_2; have HC108_2 := Aside0.mk hl108_2; clear hi108_2 hl108_2; have HR108_6 := Aside0.mk hi108_6; have HC108_6 := Aside0.mk hl108_6; clear hi108_6 hl108_6; replace p108 := eq_true p108; have p108D := p108; try simp only [List.length_drop, List.length_take] at p108D
          replace q108 := eq_true q108; have q108D := q108; try simp only [List.length_drop, List.length_take] at q108D
          have ea_ := Option.some.inj (hx106_2.symm.trans hx108_2)
          injection ea_ with ea_ en_ ec_
          subst ea_; subst ec_; clear en_; have ea_ := Option.some.inj (hx106_6.symm.trans hx108_6)
          injection ea_ with ea_ en_ ec_
          subst ea_; subst ec_; clear en_
          go_wp2
          repeat (go_quiet (fail); try go_wp2)
          go_ret
          exact ⟨by first | rfl | (simp [errW_none, errW_some] <;> rfl) | (simp only [← hji22, ← hji23, ← hji24]; first | rfl | (simp [errW_none, errW_some] <;> rfl)) | (simp [*, errW_none, errW_some] <;> rfl), by repeat (first | (with_reducible first | exact HB.out | apply below_alloc | apply pw_below_drewN | apply below_drew1 | refine below_set ?_ GE101.out) | exact HB.out)⟩
         ·rw [if_neg c25] at H
          have c25b0 : decide (6000 < (wrap64 (x3_2 + (((1 + (ji22)) + (ji23)) + (ji24))))) = false := decide_eq_false c25; clear c25; have H' := Aside0.mk H; clear H; have hcz27_0 := (blk_cell BK101.out 0).trans rfl; have hcz27_1 := (blk_cell BK101.out 1).trans rfl; have hfz27_0 := blk_frozen BK101.out 0; have hfz27_1 := blk_frozen BK101.out 1; have p106 : 0 ≤ (x56_2 : Int) := of_decide_eq_true (by first | (with_reducible assumption) | assumption); have q106 : x56_2 < (l0_1.length : Int) := of_decide_eq_true (by first | (with_reducible assumption) | assumption); obtain ⟨ad106, A106_2, c106_2, A106_6, c106_6, e106, hx106_0, hx106_1, hx106_2, hx106_3, hx106_4, hx106_5, hx106_6, hl106_2, hi106_2, hl106_6, hi106_6⟩ := at_T135 HR0_1.out x56_2 p106 q106
          cases e106
          replace hx106_0 := (HB.out.cell (World.block_lt_of_cell? w _ hx106_0)).trans hx106_0; replace hx106_1 := (HB.out.cell (World.block_lt_of_cell? w _ hx106_1)).trans hx106_1; replace hx106_2 := (HB.out.cell (World.block_lt_of_cell? w _ hx106_2)).trans hx106_2; replace hx106_3 := (HB.out.cell (World.block_lt_of_cell? w _ hx106_3)).trans hx106_3; replace hx106_4 := (HB.out.cell (World.block_lt_of_cell? w _ hx106_4)).trans hx106_4; replace hx106_5 := (HB.out.cell (World.block_lt_of_cell? w _ hx106_5)).trans hx106_5; replace hx106_6 := (HB.out.cell (World.block_lt_of_cell? w _ hx106_6)).trans hx106_6; have HR106_2 := Aside0.mk hi106_2; have HC106_2 := Aside0.mk hl106_2; clear hi106_2 hl106_2; have HR106_6 := Aside0.mk hi106_6; have HC106_6 := Aside0.mk hl106_6; clear hi106_6 hl106_6; replace p106 := eq_true p106; have p106D := p106; try simp only [List.length_drop, List.length_take] at p106D
          replace q106 := eq_true q106; have q106D := q106; try simp only [List.length_drop, List.length_take] at q106D
          have p107 : 0 ≤ (x56_2 : Int) := of_decide_eq_true (by first | (with_reducible assumption) | assumption); have q107 : x56_2 < (l0_1.length : Int) := of_decide_eq_true (by first | (with_reducible assumption) | assumption); obtain ⟨ad107, A107_2, c107_2, A107_6, c107_6, e107, hx107_0, hx107_1, hx107_2, hx107_3, hx107_4, hx107_5, hx107_6, hl107_2, hi107_2, hl107_6, hi107_6⟩ := at_T135 HR0_1.out x56_2 p107 q107; obtain rfl : ad106 = ad107 := (by injection e107); replace hx107_0 := (HB.out.cell (World.block_lt_of_cell? w _ hx107_0)).trans hx107_0; replace hx107_1 := (HB.out.cell (World.block_lt_of_cell? w _ hx107_1)).trans hx107_1; replace hx107_2 := (HB.out.cell (World.block_lt_of_cell? w _ hx107_2)).trans hx107_2; replace hx107_3 := (HB.out.cell (World.block_lt_of_cell? w _ hx107_3)).trans hx107_3; replace hx107_4 := (HB.out.cell (World.block_lt_of_cell? w _ hx107_4)).trans hx107_4; replace hx107_5 := (HB.out.cell (World.block_lt_of_cell? w _ hx107_5)).trans hx107_5; replace hx107_6 := (HB.out.cell (World.block_lt_of_cell? w _ hx107_6)).trans hx107_6; have HR107_2 := Aside0.mk hi107_2; have HC107_2 := Aside0.mk hl107_2; clear hi107_2 hl107_2; have HR107_6 := Aside0.mk hi107_6; have HC107_6 := Aside0.mk hl107_6; clear hi107_6 hl107_6; replace p107 := eq_true p107; have p107D := p107; try simp only [List.length_drop, List.length_take] at p107D
          replace q107 := eq_true q107; have q107D := q107; try simp only [List.length_drop, List.length_take] at q107D
          have ea_ := Option.some.inj (hx106_2.symm.trans hx107_2)
          injection ea_ with ea_ en_ ec_
          subst ea_; subst ec_; clear en_; have ea_ := Option.some.inj (hx106_6.symm.trans hx107_6)
          injection ea_ with ea_ en_ ec_
          subst ea_; subst ec_; clear en_; have p108 : 0 ≤ (x56_2 : Int) := of_decide_eq_true (by first | (with_reducible assumption) | assumption); have q108 : x56_2 < (l0_1.length : Int) := of_decide_eq_true (by first | (with_reducible assumption) | assumption); obtain ⟨ad108, A108_2, c108_2, A108_6, c108_6, e108, hx108_0, hx108_1, hx108_2, hx108_3, hx108_4, hx108_5, hx108_6, hl108_2, hi108_2, hl108_6, hi108_6⟩ := at_T135 HR0_1.out x56_2 p108 q108; obtain rfl : ad106 = ad108 := (by injection e108); replace hx108_0 := (HB.out.cell (World.block_lt_of_cell? w _ hx108_0)).trans hx108_0; replace hx108_1 := (HB.out.cell (World.block_lt_of_cell? w _ hx108_1)).trans hx108_1; replace hx108_2 := (HB.out.cell (World.block_lt_of_cell? w _ hx108_2)).trans hx108_2; replace hx108_3 := (HB.out.cell (World.block_lt_of_cell? w _ hx108_3)).trans hx108_3; replace hx108_4 := (HB.out.cell (World.block_lt_of_cell? w _ hx108_4)).trans hx108_4; replace hx108_5 := (HB.out.cell (World.block_lt_of_cell? w _ hx108_5)).trans hx108_5; replace hx108_6 := (HB.out.cell (World.block_lt_of_cell? w _ hx108_6)).trans hx108_6; have HR108_2 := Aside0.mk hi108_2; have HC108_2 := Aside0.mk hl108_2; clear hi108_2 hl108_2; have HR108_6 := Aside0.mk hi108_6; have HC108_6 := Aside0.mk hl108_6; clear hi108_6 hl108_6; replace p108 := eq_true p108; have p108D := p108; try simp only [List.length_drop, List.length_take] at p108D
          replace q108 := eq_true q108; have q108D := q108; try simp only [List.length_drop, List.length_take] at q108D
          have ea_ := Option.some.inj (hx106_2.symm.trans hx108_2)
          injection ea_ with ea_ en_ ec_
          subst ea_; subst ec_; clear en_; have ea_ := Option.some.inj (hx106_6.symm.trans hx108_6)
          injection ea_ with ea_ en_ ec_
          subst ea_; subst ec_; clear en_
          go_wp2
          repeat (go_quiet (fail); try go_wp2)
          go_roundg k2
          case measure => have := HK1.out; have := HK2.out; omega
          case rel => exact ⟨(wrap64 (x3_2 + (((1 + (ji22)) + (ji23)) + (ji24)))), (wrap64 (x56_2 + 1)), (by first | rfl | (simp; done) | (simp only [← hji22, ← hji23, ← hji24] <;> (first | rfl | simp)) | (simp [*]; done)), (by first | rfl | (simp; done) | (simp [*]; done)), H', ⟨by have := HK1.out; have := HK2.out; omega⟩, ⟨by (with_reducible repeat (first | refine blk_drewN ?_ _ | refine blk_drew ?_ | refine blk_alloc ?_ _)); exact BK101.out⟩, ⟨by repeat (first | (with_reducible first | exact HB.out | apply below_alloc | apply pw_below_drewN | apply below_drew1 | refine below_set ?_ GE101.out) | exact HB.out)⟩⟩
        ·rw [if_neg c21] at H
         exact absurd H (by simp)
       ·rw [if_neg c20] at H
        exact absurd H (by simp)
      ·rw [if_neg c19] at H
       have c19b0 : decide (x56_2 < (l0_1.length : Int)) = false := decide_eq_false c19; clear c19; obtain rfl := Option.some.inj H
       go_wp2
       repeat (go_quiet (fail); try go_wp2)
       go_ret
       exact ⟨by first | rfl | (simp [errW_none, errW_some] <;> rfl) | (simp [*, errW_none, errW_some] <;> rfl), by repeat (first | (with_reducible first | exact HB.out | apply below_alloc | apply pw_below_drewN | apply below_drew1 | refine below_set ?_ GE101.out) | exact HB.out)⟩

end Go.Proofs.Ytpfegfkniilobaa.XSchema
