-- Written by this session's own program (wip/own_print.py) over the kit's print, with this session's hand-proved contracts in their places; Lean checks it.
import Derived.Test.YtpfegfkniilobaaXSchemax0
import Derived.Test.YtpfegfkniilobaaXSchemax8
import Derived.Test.YtpfegfkniilobaaXSchemax9
namespace Go.Proofs.Ytpfegfkniilobaa.XSchema
open Go.RowKit Go.Proofs.YtpfegfkniilobaaW.PrintWords Go.Proofs.YtpfegfkniilobaaW.PrintLast Go.Proofs.YtpfegfkniilobaaW.PrintMore
attribute [local go_sem] max2_int min2_int max_two min_two max_three min_three max_four min_four   -- for this text's walks alone
set_option linter.unusedVariables false
set_option linter.unusedSimpArgs false

/-! ### rowlockref12_May: function 30 -/
mutual
def rowlockref12_May.j0 : Nat → Bool → List (S84) → List (S135) → Option (Bool)
 | 0, _, _, _ => none
 | k + 1, x16, x194000, x194001 => if x16 = true then (some false) else (rowlockref12_May.l0 k (x194000.length : Int) 0 x194000 x194001)
def rowlockref12_May.l0 : Nat → Int → Int → List (S84) → List (S135) → Option (Bool)
 | 0, _, _, _, _ => none
 | k + 1, x19, x20, x194000, x194001 => if x20 < x19 then (if 0 ≤ x20 then (if x20 < (x194000.length : Int) then ((rowlockref12_table.f k ((rd_T84 x194000 x20).f0) ((rd_T84 x194000 x20).f1) ((rd_T84 x194000 x20).f2) ((rd_T84 x194000 x20).f3) ((rd_T84 x194000 x20).f4)).bind fun t195 => (if t195 = true then (rowlockref12_May.l1 k x20 0 x19 x20 x194000 x194001) else (some false))) else (none)) else (none)) else (rowlockref12_May.l2 k (x194001.length : Int) 0 x194000 x194001)
def rowlockref12_May.l1 : Nat → Int → Int → Int → Int → List (S84) → List (S135) → Option (Bool)
 | 0, _, _, _, _, _, _ => none
 | k + 1, x3, x4, x19, x20, x194000, x194001 => if x4 < x3 then (if 0 ≤ x4 then (if x4 < (x194000.length : Int) then (if 0 ≤ x3 then (if x3 < (x194000.length : Int) then (if ((rd_T84 x194000 x4).f0).toList = ((rd_T84 x194000 x3).f0).toList then (some false) else (rowlockref12_May.l1 k x3 (wrap64 (x4 + 1)) x19 x20 x194000 x194001)) else (none)) else (none)) else (none)) else (none)) else (rowlockref12_May.l0 k x19 (wrap64 (x20 + 1)) x194000 x194001)
def rowlockref12_May.l2 : Nat → Int → Int → List (S84) → List (S135) → Option (Bool)
 | 0, _, _, _, _ => none
 | k + 1, x51, x52, x194000, x194001 => if x52 < x51 then (if 0 ≤ x52 then (if x52 < (x194001.length : Int) then ((rowlockref12_index.f k x194000 x194001 ((rd_T135 x194001 x52).f0) ((rd_T135 x194001 x52).f1) ((rd_T135 x194001 x52).f2) ((rd_T135 x194001 x52).f3) ((rd_T135 x194001 x52).f4) ((rd_T135 x194001 x52).f5) ((rd_T135 x194001 x52).f6)).bind fun t199 => (if t199 = true then (rowlockref12_May.l3 k x52 0 x51 x52 x194000 x194001) else (some false))) else (none)) else (none)) else (some true)
def rowlockref12_May.l3 : Nat → Int → Int → Int → Int → List (S84) → List (S135) → Option (Bool)
 | 0, _, _, _, _, _, _ => none
 | k + 1, x5, x6, x51, x52, x194000, x194001 => if x6 < x5 then (if 0 ≤ x6 then (if x6 < (x194001.length : Int) then (if 0 ≤ x5 then (if x5 < (x194001.length : Int) then (if ((rd_T135 x194001 x6).f0).toList = ((rd_T135 x194001 x5).f0).toList then (some false) else (rowlockref12_May.l3 k x5 (wrap64 (x6 + 1)) x51 x52 x194000 x194001)) else (none)) else (none)) else (none)) else (none)) else (rowlockref12_May.l2 k x51 (wrap64 (x52 + 1)) x194000 x194001)
end
def rowlockref12_May.f (k : Nat) (l0_0 : List (S84)) (l0_1 : List (S135)) : Option (Bool) := if (l0_0.length : Int) > 16 then (rowlockref12_May.j0 k true l0_0 l0_1) else (rowlockref12_May.j0 k (decide ((l0_1.length : Int) > 16)) l0_0 l0_1)
theorem rowlockref12_May.mono_l : ∀ k, (∀ y0 y1 y2, LeO (rowlockref12_May.j0 k y0 y1 y2) (rowlockref12_May.j0 (k + 1) y0 y1 y2)) ∧ (∀ y0 y1 y2 y3, LeO (rowlockref12_May.l0 k y0 y1 y2 y3) (rowlockref12_May.l0 (k + 1) y0 y1 y2 y3)) ∧ (∀ y0 y1 y2 y3 y4 y5, LeO (rowlockref12_May.l1 k y0 y1 y2 y3 y4 y5) (rowlockref12_May.l1 (k + 1) y0 y1 y2 y3 y4 y5)) ∧ (∀ y0 y1 y2 y3, LeO (rowlockref12_May.l2 k y0 y1 y2 y3) (rowlockref12_May.l2 (k + 1) y0 y1 y2 y3)) ∧ (∀ y0 y1 y2 y3 y4 y5, LeO (rowlockref12_May.l3 k y0 y1 y2 y3 y4 y5) (rowlockref12_May.l3 (k + 1) y0 y1 y2 y3 y4 y5))
 | 0 => ⟨fun _ _ _ r h => by simp [rowlockref12_May.j0] at h, fun _ _ _ _ r h => by simp [rowlockref12_May.l0] at h, fun _ _ _ _ _ _ r h => by simp [rowlockref12_May.l1] at h, fun _ _ _ _ r h => by simp [rowlockref12_May.l2] at h, fun _ _ _ _ _ _ r h => by simp [rowlockref12_May.l3] at h⟩
 | k + 1 => by
  obtain ⟨ih0, ih1, ih2, ih3, ih4⟩ := rowlockref12_May.mono_l k
  refine ⟨?_, ?_, ?_, ?_, ?_⟩
  ·intro y0 y1 y2
   unfold rowlockref12_May.j0
   repeat' first
   | (with_reducible exact ih0 _ _ _)
   | (with_reducible exact ih1 _ _ _ _)
   | (with_reducible exact ih2 _ _ _ _ _ _)
   | (with_reducible exact ih3 _ _ _ _)
   | (with_reducible exact ih4 _ _ _ _ _ _)
   | (with_reducible exact rowlockref12_index.mono _ _ _ _ _ _ _ _ _ _)
   | (with_reducible exact rowlockref12_table.mono _ _ _ _ _ _)
   | (with_reducible exact LeO.refl _)
   | (with_reducible exact LeO.none _)
   | (with_reducible refine LeO.ite ?_ ?_)
   | (with_reducible refine LeO.bind ?_ (fun _ => ?_))
   | exact ih0 _ _ _
   | exact ih1 _ _ _ _
   | exact ih2 _ _ _ _ _ _
   | exact ih3 _ _ _ _
   | exact ih4 _ _ _ _ _ _
   | exact rowlockref12_index.mono _ _ _ _ _ _ _ _ _ _
   | exact rowlockref12_table.mono _ _ _ _ _ _
   | exact LeO.none _
   | refine LeO.ite ?_ ?_
   | refine LeO.bind ?_ (fun _ => ?_)
  ·intro y0 y1 y2 y3
   unfold rowlockref12_May.l0
   repeat' first
   | (with_reducible exact ih0 _ _ _)
   | (with_reducible exact ih1 _ _ _ _)
   | (with_reducible exact ih2 _ _ _ _ _ _)
   | (with_reducible exact ih3 _ _ _ _)
   | (with_reducible exact ih4 _ _ _ _ _ _)
   | (with_reducible exact rowlockref12_index.mono _ _ _ _ _ _ _ _ _ _)
   | (with_reducible exact rowlockref12_table.mono _ _ _ _ _ _)
   | (with_reducible exact LeO.refl _)
   | (with_reducible exact LeO.none _)
   | (with_reducible refine LeO.ite ?_ ?_)
   | (with_reducible refine LeO.bind ?_ (fun _ => ?_))
   | exact ih0 _ _ _
   | exact ih1 _ _ _ _
   | exact ih2 _ _ _ _ _ _
   | exact ih3 _ _ _ _
   | exact ih4 _ _ _ _ _ _
   | exact rowlockref12_index.mono _ _ _ _ _ _ _ _ _ _
   | exact rowlockref12_table.mono _ _ _ _ _ _
   | exact LeO.none _
   | refine LeO.ite ?_ ?_
   | refine LeO.bind ?_ (fun _ => ?_)
  ·intro y0 y1 y2 y3 y4 y5
   unfold rowlockref12_May.l1
   repeat' first
   | (with_reducible exact ih0 _ _ _)
   | (with_reducible exact ih1 _ _ _ _)
   | (with_reducible exact ih2 _ _ _ _ _ _)
   | (with_reducible exact ih3 _ _ _ _)
   | (with_reducible exact ih4 _ _ _ _ _ _)
   | (with_reducible exact rowlockref12_index.mono _ _ _ _ _ _ _ _ _ _)
   | (with_reducible exact rowlockref12_table.mono _ _ _ _ _ _)
   | (with_reducible exact LeO.refl _)
   | (with_reducible exact LeO.none _)
   | (with_reducible refine LeO.ite ?_ ?_)
   | (with_reducible refine LeO.bind ?_ (fun _ => ?_))
   | exact ih0 _ _ _
   | exact ih1 _ _ _ _
   | exact ih2 _ _ _ _ _ _
   | exact ih3 _ _ _ _
   | exact ih4 _ _ _ _ _ _
   | exact rowlockref12_index.mono _ _ _ _ _ _ _ _ _ _
   | exact rowlockref12_table.mono _ _ _ _ _ _
   | exact LeO.none _
   | refine LeO.ite ?_ ?_
   | refine LeO.bind ?_ (fun _ => ?_)
  ·intro y0 y1 y2 y3
   unfold rowlockref12_May.l2
   repeat' first
   | (with_reducible exact ih0 _ _ _)
   | (with_reducible exact ih1 _ _ _ _)
   | (with_reducible exact ih2 _ _ _ _ _ _)
   | (with_reducible exact ih3 _ _ _ _)
   | (with_reducible exact ih4 _ _ _ _ _ _)
   | (with_reducible exact rowlockref12_index.mono _ _ _ _ _ _ _ _ _ _)
   | (with_reducible exact rowlockref12_table.mono _ _ _ _ _ _)
   | (with_reducible exact LeO.refl _)
   | (with_reducible exact LeO.none _)
   | (with_reducible refine LeO.ite ?_ ?_)
   | (with_reducible refine LeO.bind ?_ (fun _ => ?_))
   | exact ih0 _ _ _
   | exact ih1 _ _ _ _
   | exact ih2 _ _ _ _ _ _
   | exact ih3 _ _ _ _
   | exact ih4 _ _ _ _ _ _
   | exact rowlockref12_index.mono _ _ _ _ _ _ _ _ _ _
   | exact rowlockref12_table.mono _ _ _ _ _ _
   | exact LeO.none _
   | refine LeO.ite ?_ ?_
   | refine LeO.bind ?_ (fun _ => ?_)
  ·intro y0 y1 y2 y3 y4 y5
   unfold rowlockref12_May.l3
   repeat' first
   | (with_reducible exact ih0 _ _ _)
   | (with_reducible exact ih1 _ _ _ _)
   | (with_reducible exact ih2 _ _ _ _ _ _)
   | (with_reducible exact ih3 _ _ _ _)
   | (with_reducible exact ih4 _ _ _ _ _ _)
   | (with_reducible exact rowlockref12_index.mono _ _ _ _ _ _ _ _ _ _)
   | (with_reducible exact rowlockref12_table.mono _ _ _ _ _ _)
   | (with_reducible exact LeO.refl _)
   | (with_reducible exact LeO.none _)
   | (with_reducible refine LeO.ite ?_ ?_)
   | (with_reducible refine LeO.bind ?_ (fun _ => ?_))
   | exact ih0 _ _ _
   | exact ih1 _ _ _ _
   | exact ih2 _ _ _ _ _ _
   | exact ih3 _ _ _ _
   | exact ih4 _ _ _ _ _ _
   | exact rowlockref12_index.mono _ _ _ _ _ _ _ _ _ _
   | exact rowlockref12_table.mono _ _ _ _ _ _
   | exact LeO.none _
   | refine LeO.ite ?_ ?_
   | refine LeO.bind ?_ (fun _ => ?_)
theorem rowlockref12_May.mono : ∀ a0 a1 k, LeO (rowlockref12_May.f k a0 a1) (rowlockref12_May.f (k + 1) a0 a1) := by
 intro a0 a1 k
 obtain ⟨ih0, ih1, ih2, ih3, ih4⟩ := rowlockref12_May.mono_l k
 unfold rowlockref12_May.f
 repeat' first
   | (with_reducible exact ih0 _ _ _)
   | (with_reducible exact ih1 _ _ _ _)
   | (with_reducible exact ih2 _ _ _ _ _ _)
   | (with_reducible exact ih3 _ _ _ _)
   | (with_reducible exact ih4 _ _ _ _ _ _)
   | (with_reducible exact rowlockref12_index.mono _ _ _ _ _ _ _ _ _ _)
   | (with_reducible exact rowlockref12_table.mono _ _ _ _ _ _)
   | (with_reducible exact LeO.refl _)
   | (with_reducible exact LeO.none _)
   | (with_reducible refine LeO.ite ?_ ?_)
   | (with_reducible refine LeO.bind ?_ (fun _ => ?_))
   | exact ih0 _ _ _
   | exact ih1 _ _ _ _
   | exact ih2 _ _ _ _ _ _
   | exact ih3 _ _ _ _
   | exact ih4 _ _ _ _ _ _
   | exact rowlockref12_index.mono _ _ _ _ _ _ _ _ _ _
   | exact rowlockref12_table.mono _ _ _ _ _ _
   | exact LeO.none _
   | refine LeO.ite ?_ ?_
   | refine LeO.bind ?_ (fun _ => ?_)
def rowlockref12_May.T11 : Bool × List (List Nat × List Nat) := (true, [([], []), ([0], [0]), ([], []), ([1, 2], [1, 2]), ([3], [3]), ([4], [4]), ([], []), ([6], [6]), ([], []), ([7, 8], [7, 8]), ([9], [9]), ([10], [10]), ([5, 11], [5, 11])])
def rowlockref12_May.B11 : List Nat := [0, 1, 0, 7, 15, 31, 0, 64, 0, 448, 960, 1984, 4095]
theorem rowlockref12_May.tab11 : rtab .any (opsOf Try.f30 11) = rowlockref12_May.T11 := by kernel_rfl
theorem rowlockref12_May.bits11 : waitsOk rowlockref12_May.T11.2 rowlockref12_May.B11 = true := by kernel_rfl
def rowlockref12_May.T17 : Bool × List (List Nat × List Nat) := (true, [([], []), ([], []), ([1], [1]), ([], []), ([2, 3], [2, 3]), ([4], [4]), ([0, 5], [0, 5]), ([6], [6])])
def rowlockref12_May.B17 : List Nat := [0, 0, 2, 0, 14, 30, 63, 127]
theorem rowlockref12_May.tab17 : rtab .any (opsOf Try.f30 17) = rowlockref12_May.T17 := by kernel_rfl
theorem rowlockref12_May.bits17 : waitsOk rowlockref12_May.T17.2 rowlockref12_May.B17 = true := by kernel_rfl
def rowlockref12_May.T22 : Bool × List (List Nat × List Nat) := (true, [([], []), ([0], [0]), ([], []), ([1, 2], [1, 2]), ([3], [3]), ([4], [4]), ([], []), ([6], [6]), ([], []), ([7, 8], [7, 8]), ([9], [9]), ([10], [10]), ([5, 11], [5, 11])])
def rowlockref12_May.B22 : List Nat := [0, 1, 0, 7, 15, 31, 0, 64, 0, 448, 960, 1984, 4095]
theorem rowlockref12_May.tab22 : rtab .any (opsOf Try.f30 22) = rowlockref12_May.T22 := by kernel_rfl
theorem rowlockref12_May.bits22 : waitsOk rowlockref12_May.T22.2 rowlockref12_May.B22 = true := by kernel_rfl
set_option maxHeartbeats 8000000 in
set_option maxRecDepth 100000 in
theorem rowlockref12_May.calls (k : Nat) (A0_0 : Option Addr) (c0_0 : Nat) (l0_0 : List (S84)) (A0_1 : Option Addr) (c0_1 : Nat) (l0_1 : List (S135)) (r : Bool) (w : World) (hr0_0 : Kd.C k84 w A0_0 l0_0.length l0_0) (hc0_0 : l0_0.length ≤ c0_0) (hr0_1 : Kd.C k135 w A0_1 l0_1.length l0_1) (hc0_1 : l0_1.length ≤ c0_1) (h : rowlockref12_May.f k l0_0 l0_1 = some r) :
  Calls Try.prog 30 #[.agg #[.slice A0_0 l0_0.length c0_0, .slice A0_1 l0_1.length c0_1]] w fun e w' => e = .returned (.bool r) ∧ Below w.heap.size w w' := by
 have hu80 := Try.underlying80
 have hu84 := Try.underlying84
 have hu135 := Try.underlying135
 have HR0_0 := Aside0.mk hr0_0
 have HC0_0 := Aside0.mk hc0_0
 clear hr0_0 hc0_0
 have HR0_1 := Aside0.mk hr0_1
 have HC0_1 := Aside0.mk hc0_1
 clear hr0_1 hc0_1
 have HB := Aside0.mk (Below.refl w.heap.size w)
 have H : (if (l0_0.length : Int) > 16 then (rowlockref12_May.j0 k true l0_0 l0_1) else (rowlockref12_May.j0 k (decide ((l0_1.length : Int) > 16)) l0_0 l0_1)) = some r := h
 clear h
 have HC2 := Aside0.mk H
 clear H
 go_enter Try.func30, Try.ntmps30
 go_upto_region 1 with (first | ((with_reducible refine gate_dst (N := 1) rfl ?_); (try (refine gate_guard (by rfl) ?_; dsimp only)); refine box_event ?hg (N := 1) ?hd (cs := #[.slice A0_0 l0_0.length c0_0, .slice A0_1 l0_1.length c0_1]) (t := 80) ?hr ?_; (case hd => rfl); (case hg => rfl); (case hr => first | (go_simp; done) | (go_simp; rfl)); intro gb193 hg w3 hbox hb; have n0_ := Aside0.mk (below_step (by repeat (first | (with_reducible first | exact HB.out | apply below_alloc | apply pw_below_drewN | apply below_drew1) | exact HB.out)) hb); have n1_ := Aside0.mk (hbox); have n2_ := Aside0.mk ((by rw [hg]; exact (below_size (by repeat (first | (with_reducible first | exact HB.out | apply below_alloc | apply pw_below_drewN | apply below_drew1) | exact HB.out))) : w.heap.size ≤ gb193)); have n3_ := Aside0.mk ((by rw [hg]; exact (below_size (by repeat (first | (with_reducible first | exact HB.out | apply below_alloc | apply pw_below_drewN | apply below_drew1) | exact HB.out))) : w.heap.size ≤ gb193)); clear HB; have HB := n0_; have BK193 := n1_; have GW193 := n2_; have GE193 := n3_; clear n0_ n1_ n2_ n3_; clear hb hbox hg))
 (try simp only [Act.put, List.setIfInBounds_toArray, List.set_cons_zero, List.set_cons_succ])
 go_cut [16] (fun v16 wc => ∃ (kq : Nat) (x16_1 : Bool), v16 = .bool x16_1 ∧ Aside0 (rowlockref12_May.j0 kq x16_1 l0_0 l0_1 = some r) ∧ Aside0 (kq ≤ k) ∧ Aside0 (wc.heap[gb193]? = some (.cells #[(.slice A0_0 l0_0.length c0_0), (.slice A0_1 l0_1.length c0_1)] 80 (0, 0))) ∧ Aside0 (Below w.heap.size w wc))
 case first =>
  have H := HC2.out
  clear HC2
  by_cases c4 : (l0_0.length : Int) > 16
  ·rw [if_pos c4] at H
   have c4b0 : decide (16 < (l0_0.length : Int)) = true := decide_eq_true c4
   have c4b1 : decide (16 < l0_0.length) = true := decide_eq_true (by omega)
   clear c4
   (first | rw [c4b0] | (simp only [i64_w, i32_w]; rw [c4b0]) | skip)
   have H' := Aside0.mk H
   clear H
   have hcz5_0 : w3.cell? ⟨gb193, 0, none⟩ = some (.slice A0_0 l0_0.length c0_0) := (blk_cell BK193.out 0).trans rfl
   have hcz5_1 : w3.cell? ⟨gb193, 1, none⟩ = some (.slice A0_1 l0_1.length c0_1) := (blk_cell BK193.out 1).trans rfl
   have hfz5_0 := blk_frozen BK193.out 0
   have hfz5_1 := blk_frozen BK193.out 1
   go_wp2
   go_meet
   case rel => exact ⟨_, (true), (by first | rfl | (simp; done) | (simp [*]; done)), H', ⟨by first | omega | exact Nat.le_refl _⟩, ⟨by (with_reducible repeat (first | refine blk_drewN ?_ _ | refine blk_drew ?_ | refine blk_alloc ?_ _)); exact BK193.out⟩, ⟨by repeat (first | (with_reducible first | exact HB.out | apply below_alloc | apply pw_below_drewN | apply below_drew1 | refine below_set ?_ GE193.out) | exact HB.out)⟩⟩
  ·rw [if_neg c4] at H
   have c4b0 : decide (16 < (l0_0.length : Int)) = false := decide_eq_false c4
   have c4b1 : decide (16 < l0_0.length) = false := decide_eq_false (by omega)
   clear c4
   (first | rw [c4b0] | (simp only [i64_w, i32_w]; rw [c4b0]) | skip)
   have H' := Aside0.mk H
   clear H
   have hcz6_0 : w3.cell? ⟨gb193, 0, none⟩ = some (.slice A0_0 l0_0.length c0_0) := (blk_cell BK193.out 0).trans rfl
   have hcz6_1 : w3.cell? ⟨gb193, 1, none⟩ = some (.slice A0_1 l0_1.length c0_1) := (blk_cell BK193.out 1).trans rfl
   have hfz6_0 := blk_frozen BK193.out 0
   have hfz6_1 := blk_frozen BK193.out 1
   go_wp2
   go_meet
   case rel => exact ⟨_, (decide ((l0_1.length : Int) > 16)), (by first | rfl | (simp; done) | (simp [*]; done)), H', ⟨by first | omega | exact Nat.le_refl _⟩, ⟨by (with_reducible repeat (first | refine blk_drewN ?_ _ | refine blk_drew ?_ | refine blk_alloc ?_ _)); exact BK193.out⟩, ⟨by repeat (first | (with_reducible first | exact HB.out | apply below_alloc | apply pw_below_drewN | apply below_drew1 | refine below_set ?_ GE193.out) | exact HB.out)⟩⟩
 case rest =>
  clear HC2
  try clear p2
  try clear c3
  try clear c4
  try clear c4b0
  try clear c4b1
  try clear hcz5_0
  try clear hcz5_1
  try clear hcz6_0
  try clear hcz6_1
  try clear hfz5_0
  try clear hfz5_1
  try clear hfz6_0
  try clear hfz6_1
  obtain ⟨kq, x16_1, rfl, HA, HJ1, BK193, HB⟩ := hcut
  cases kq with
  | zero => exact absurd HA.out (by simp [rowlockref12_May.j0])
  | succ kj1 =>
   have H := HA.out
   clear HA
   simp only [rowlockref12_May.j0] at H
   by_cases c7 : x16_1 = true
   ·subst c7
    have H1 : (some false) = some r := by rw [if_pos rfl] at H; exact H
    clear H
    have H := H1
    clear H1
    obtain rfl := Option.some.inj H
    go_wp2
    go_ret
    exact ⟨by first | rfl | (simp [errW_none, errW_some] <;> rfl) | (simp [*, errW_none, errW_some] <;> rfl), by repeat (first | (with_reducible first | exact HB.out | apply below_alloc | apply pw_below_drewN | apply below_drew1 | refine below_set ?_ GE193.out) | exact HB.out)⟩
   ·replace c7 := Bool.eq_false_iff.mpr c7
    subst c7
    have H1 : (rowlockref12_May.l0 kj1 (l0_0.length : Int) 0 l0_0 l0_1) = some r := by rw [if_neg (show ¬ (false = true) by decide)] at H; exact H
    clear H
    have H := H1
    clear H1
    have H' := Aside0.mk H
    clear H
    have hcz8_0 : wc.cell? ⟨gb193, 0, none⟩ = some (.slice A0_0 l0_0.length c0_0) := (blk_cell BK193.out 0).trans rfl
    have hcz8_1 : wc.cell? ⟨gb193, 1, none⟩ = some (.slice A0_1 l0_1.length c0_1) := (blk_cell BK193.out 1).trans rfl
    have hfz8_0 := blk_frozen BK193.out 0
    have hfz8_1 := blk_frozen BK193.out 1
    go_wp2
    go_loopg [20] kj1 (fun kq v20 w' => ∃ (x20_2 : Int), v20 = .int .i64 x20_2 ∧ Aside0 (rowlockref12_May.l0 kq (l0_0.length : Int) x20_2 l0_0 l0_1 = some r) ∧ Aside0 (kq ≤ kj1) ∧ Aside0 (w'.heap[gb193]? = some (.cells #[(.slice A0_0 l0_0.length c0_0), (.slice A0_1 l0_1.length c0_1)] 80 (0, 0))) ∧ Aside0 (Below w.heap.size w w'))
    case atStart => exact ⟨(0), (by first | rfl | (simp; done) | (simp [*]; done)), H', ⟨Nat.le_refl _⟩, ⟨by (with_reducible repeat (first | refine blk_drewN ?_ _ | refine blk_drew ?_ | refine blk_alloc ?_ _)); exact BK193.out⟩, ⟨by repeat (first | (with_reducible first | exact HB.out | apply below_alloc | apply pw_below_drewN | apply below_drew1 | refine below_set ?_ GE193.out) | exact HB.out)⟩⟩
    case round =>
     clear H'
     try clear p2
     try clear c3
     try clear c4
     try clear c4b0
     try clear c4b1
     try clear c7
     try clear hcz5_0
     try clear hcz5_1
     try clear hcz6_0
     try clear hcz6_1
     try clear hcz8_0
     try clear hcz8_1
     try clear hfz5_0
     try clear hfz5_1
     try clear hfz6_0
     try clear hfz6_1
     try clear hfz8_0
     try clear hfz8_1
     try clear p2
     obtain ⟨x20_2, rfl, HA, HK2, BK193, HB⟩ := hrel
     cases gk with
     | zero => exact absurd HA.out (by simp [rowlockref12_May.l0])
     | succ k2 =>
      have H := HA.out
      clear HA
      simp only [rowlockref12_May.l0] at H
      by_cases c9 : x20_2 < (l0_0.length : Int)
      ·rw [if_pos c9] at H
       have c9b0 : decide (x20_2 < (l0_0.length : Int)) = true := decide_eq_true c9
       clear c9
       by_cases c10 : 0 ≤ x20_2
       ·rw [if_pos c10] at H
        have c10b0 : decide (0 ≤ x20_2) = true := decide_eq_true c10
        clear c10
        by_cases c11 : x20_2 < (l0_0.length : Int)
        ·rw [if_pos c11] at H
         have c11b0 : decide (x20_2 < (l0_0.length : Int)) = true := decide_eq_true c11
         clear c11
         replace H := Option.bind_eq_some_iff.mp H
         obtain ⟨t195, A120, H⟩ := H
         replace H : (if t195 = true then (rowlockref12_May.l1 k2 x20_2 0 (l0_0.length : Int) x20_2 l0_0 l0_1) else (some false)) = some r := H
         have A12 := Aside0.mk A120
         clear A120
         by_cases c13 : t195 = true
         ·subst c13
          have H1 : (rowlockref12_May.l1 k2 x20_2 0 (l0_0.length : Int) x20_2 l0_0 l0_1) = some r := by rw [if_pos rfl] at H; exact H
          clear H
          have H := H1
          clear H1
          have H' := Aside0.mk H
          clear H
          have hcz14_0 : wr.cell? ⟨gb193, 0, none⟩ = some (.slice A0_0 l0_0.length c0_0) := (blk_cell BK193.out 0).trans rfl
          have hcz14_1 : wr.cell? ⟨gb193, 1, none⟩ = some (.slice A0_1 l0_1.length c0_1) := (blk_cell BK193.out 1).trans rfl
          have hfz14_0 := blk_frozen BK193.out 0
          have hfz14_1 := blk_frozen BK193.out 1
          have p194 : 0 ≤ (x20_2 : Int) := of_decide_eq_true (by first | (with_reducible assumption) | assumption)
          have q194 : x20_2 < (l0_0.length : Int) := of_decide_eq_true (by first | (with_reducible assumption) | assumption)
          obtain ⟨ad194, A194_1, c194_1, e194, hx194_0, hx194_1, hx194_2, hx194_3, hx194_4, hl194_1, hi194_1⟩ := at_T84 HR0_0.out x20_2 p194 q194
          cases e194
          replace hx194_0 := (HB.out.cell (World.block_lt_of_cell? w _ hx194_0)).trans hx194_0
          replace hx194_1 := (HB.out.cell (World.block_lt_of_cell? w _ hx194_1)).trans hx194_1
          replace hx194_2 := (HB.out.cell (World.block_lt_of_cell? w _ hx194_2)).trans hx194_2
          replace hx194_3 := (HB.out.cell (World.block_lt_of_cell? w _ hx194_3)).trans hx194_3
          replace hx194_4 := (HB.out.cell (World.block_lt_of_cell? w _ hx194_4)).trans hx194_4
          have HR194_1 := Aside0.mk hi194_1
          have HC194_1 := Aside0.mk hl194_1
          clear hi194_1 hl194_1
          replace p194 := eq_true p194
          have p194D := p194; try simp only [List.length_drop, List.length_take] at p194D
          replace q194 := eq_true q194
          have q194D := q194; try simp only [List.length_drop, List.length_take] at q194D
          go_wp2_with (first | ((with_reducible refine gate_callee (f := 57) rfl ?_); refine goesL_ (some 28) rfl rfl Try.func57 (by kernel_rfl) rfl #[.agg #[.string ((rd_T84 l0_0 x20_2).f0), .slice A194_1 ((rd_T84 l0_0 x20_2).f1).length c194_1, .int .u32 ((rd_T84 l0_0 x20_2).f2), .int .i64 ((rd_T84 l0_0 x20_2).f3), .int .i64 ((rd_T84 l0_0 x20_2).f4)]] rfl (by (try simp only [List.map_toArray, List.map_cons, List.map_nil]); first | done | rfl | (simp only [List.length_drop, List.length_take]; rfl)) ?_; (with_reducible refine (rowlockref12_table.calls k2 ((rd_T84 l0_0 x20_2).f0) _ _ ((rd_T84 l0_0 x20_2).f1) ((rd_T84 l0_0 x20_2).f2) ((rd_T84 l0_0 x20_2).f3) ((rd_T84 l0_0 x20_2).f4) true _ ?side1 ?side2 A12.out).mono ?_); (case side1 => repeat (first | exact (Kd.C_below HR194_1.out HB.out) | (with_reducible refine Kd.C_alloc ?_ _) | (with_reducible refine Kd.C_drewN ?_ _) | (with_reducible refine Kd.C_drew ?_))); (case side2 => exact HC194_1.out); rintro e w15 ⟨rfl, hb⟩; refine ⟨_, rfl, ?_⟩; have n0_ := Aside0.mk (blk_below (g := gb193) (o := .cells #[.slice (some ad194) l0_0.length c0_0, .slice A0_1 l0_1.length c0_1] 80 (0, 0)) (by (with_reducible repeat (first | refine blk_drewN ?_ _ | refine blk_drew ?_ | refine blk_alloc ?_ _)); exact BK193.out) hb); have n1_ := Aside0.mk (below_step (by repeat (first | (with_reducible first | exact HB.out | apply below_alloc | apply pw_below_drewN | apply below_drew1 | refine below_set ?_ GE193.out) | exact HB.out)) hb); clear BK193; clear HB; have BK193 := n0_; have HB := n1_; clear n0_ n1_; (try clear hb); (try clear hb2); (try clear hk); (try clear hi)))
          go_loopg [4] k2 (fun kq v4 w' => ∃ (x4_3 : Int), v4 = .int .i64 x4_3 ∧ Aside0 (rowlockref12_May.l1 kq x20_2 x4_3 (l0_0.length : Int) x20_2 l0_0 l0_1 = some r) ∧ Aside0 (kq ≤ k2) ∧ Aside0 (w'.heap[gb193]? = some (.cells #[(.slice (some ad194) l0_0.length c0_0), (.slice A0_1 l0_1.length c0_1)] 80 (0, 0))) ∧ Aside0 (Below w.heap.size w w'))
          case atStart => exact ⟨(0), (by first | rfl | (simp; done) | (simp [*]; done)), H', ⟨Nat.le_refl _⟩, ⟨by (with_reducible repeat (first | refine blk_drewN ?_ _ | refine blk_drew ?_ | refine blk_alloc ?_ _)); exact BK193.out⟩, ⟨by repeat (first | (with_reducible first | exact HB.out | apply below_alloc | apply pw_below_drewN | apply below_drew1 | refine below_set ?_ GE193.out) | exact HB.out)⟩⟩
          case round =>
           clear H'
           try clear c1
           try clear p1
           try clear q1
           try clear hx1
           try clear p2
           try clear c3
           try clear c4
           try clear c4b0
           try clear c4b1
           try clear c5
           try clear c7
           try clear c9
           try clear c9b0
           try clear c10
           try clear c10b0
           try clear c11
           try clear c11b0
           try clear c13
           try clear hcz14_0
           try clear hcz14_1
           try clear hcz5_0
           try clear hcz5_1
           try clear hcz6_0
           try clear hcz6_1
           try clear hcz8_0
           try clear hcz8_1
           try clear hfz14_0
           try clear hfz14_1
           try clear hfz5_0
           try clear hfz5_1
           try clear hfz6_0
           try clear hfz6_1
           try clear hfz8_0
           try clear hfz8_1
           try clear hx194_0
           try clear hx194_1
           try clear hx194_2
           try clear hx194_3
           try clear hx194_4
           try clear p194
           try clear p2
           try clear q194
           obtain ⟨x4_3, rfl, HA, HK3, BK193, HB⟩ := hrel
           cases gk with
           | zero => exact absurd HA.out (by simp [rowlockref12_May.l1])
           | succ k3 =>
            have H := HA.out
            clear HA
            simp only [rowlockref12_May.l1] at H
            by_cases c16 : x4_3 < x20_2
            ·rw [if_pos c16] at H
             have c16b0 : decide (x4_3 < x20_2) = true := decide_eq_true c16
             clear c16
             by_cases c17 : 0 ≤ x4_3
             ·rw [if_pos c17] at H
              have c17b0 : decide (0 ≤ x4_3) = true := decide_eq_true c17
              clear c17
              by_cases c18 : x4_3 < (l0_0.length : Int)
              ·rw [if_pos c18] at H
               have c18b0 : decide (x4_3 < (l0_0.length : Int)) = true := decide_eq_true c18
               clear c18
               by_cases c19 : 0 ≤ x20_2
               ·rw [if_pos c19] at H
                have c19b0 : decide (0 ≤ x20_2) = true := decide_eq_true c19
                clear c19
                by_cases c20 : x20_2 < (l0_0.length : Int)
                ·rw [if_pos c20] at H
                 have c20b0 : decide (x20_2 < (l0_0.length : Int)) = true := decide_eq_true c20
                 clear c20
                 by_cases c21 : ((rd_T84 l0_0 x4_3).f0).toList = ((rd_T84 l0_0 x20_2).f0).toList
                 ·rw [if_pos c21] at H
                  have c21b0 : (((rd_T84 l0_0 x4_3).f0).toList == ((rd_T84 l0_0 x20_2).f0).toList) = true := beq_iff_eq.mpr c21
                  have c21b1 : (((rd_T84 l0_0 x4_3).f0).toList != ((rd_T84 l0_0 x20_2).f0).toList) = false := bne_eq_false_iff_eq.mpr c21
                  clear c21
                  obtain rfl := Option.some.inj H
                  try go_wp2
                  have n0_ := Aside0.mk (blk_drew BK193.out)
                  have n1_ := Aside0.mk (below_drew1 HB.out)
                  clear BK193
                  clear HB
                  have BK193 := n0_
                  have HB := n1_
                  clear n0_ n1_
                  have p196 : 0 ≤ (x4_3 : Int) := of_decide_eq_true (by first | (with_reducible assumption) | assumption)
                  have q196 : x4_3 < (l0_0.length : Int) := of_decide_eq_true (by first | (with_reducible assumption) | assumption)
                  obtain ⟨ad196, A196_1, c196_1, e196, hx196_0, hx196_1, hx196_2, hx196_3, hx196_4, hl196_1, hi196_1⟩ := at_T84 HR0_0.out x4_3 p196 q196
                  have hw196_4 := hx196_4
                  have hw196_3 := hx196_3
                  have hw196_2 := hx196_2
                  have hw196_1 := hx196_1
                  have hw196_0 := hx196_0
                  obtain rfl : ad194 = ad196 := (by injection e196)
                  replace hx196_0 := (HB.out.cell (World.block_lt_of_cell? w _ hx196_0)).trans hx196_0
                  replace hx196_1 := (HB.out.cell (World.block_lt_of_cell? w _ hx196_1)).trans hx196_1
                  replace hx196_2 := (HB.out.cell (World.block_lt_of_cell? w _ hx196_2)).trans hx196_2
                  replace hx196_3 := (HB.out.cell (World.block_lt_of_cell? w _ hx196_3)).trans hx196_3
                  replace hx196_4 := (HB.out.cell (World.block_lt_of_cell? w _ hx196_4)).trans hx196_4
                  have HR196_1 := Aside0.mk hi196_1
                  have HC196_1 := Aside0.mk hl196_1
                  clear hi196_1 hl196_1
                  replace p196 := eq_true p196
                  have p196D := p196; try simp only [List.length_drop, List.length_take] at p196D
                  replace q196 := eq_true q196
                  have q196D := q196; try simp only [List.length_drop, List.length_take] at q196D
                  have p197 : 0 ≤ (x20_2 : Int) := of_decide_eq_true (by first | (with_reducible assumption) | assumption)
                  have q197 : x20_2 < (l0_0.length : Int) := of_decide_eq_true (by first | (with_reducible assumption) | assumption)
                  obtain ⟨ad197, A197_1, c197_1, e197, hx197_0, hx197_1, hx197_2, hx197_3, hx197_4, hl197_1, hi197_1⟩ := at_T84 HR0_0.out x20_2 p197 q197
                  have hw197_4 := hx197_4
                  have hw197_3 := hx197_3
                  have hw197_2 := hx197_2
                  have hw197_1 := hx197_1
                  have hw197_0 := hx197_0
                  obtain rfl : ad194 = ad197 := (by injection e197)
                  replace hx197_0 := (HB.out.cell (World.block_lt_of_cell? w _ hx197_0)).trans hx197_0
                  replace hx197_1 := (HB.out.cell (World.block_lt_of_cell? w _ hx197_1)).trans hx197_1
                  replace hx197_2 := (HB.out.cell (World.block_lt_of_cell? w _ hx197_2)).trans hx197_2
                  replace hx197_3 := (HB.out.cell (World.block_lt_of_cell? w _ hx197_3)).trans hx197_3
                  replace hx197_4 := (HB.out.cell (World.block_lt_of_cell? w _ hx197_4)).trans hx197_4
                  have HR197_1 := Aside0.mk hi197_1
                  have HC197_1 := Aside0.mk hl197_1
                  clear hi197_1 hl197_1
                  replace p197 := eq_true p197
                  have p197D := p197; try simp only [List.length_drop, List.length_take] at p197D
                  replace q197 := eq_true q197
                  have q197D := q197; try simp only [List.length_drop, List.length_take] at q197D
                  refine start_ (n := 13) (S := fun w' => w'.cell? ⟨gb193, 0, none⟩ = some (.slice (some ad194) l0_0.length c0_0) ∧ w'.cell? ⟨gb193, 1, none⟩ = some (.slice A0_1 l0_1.length c0_1) ∧ w'.cell? (ad194.add ((x4_3).toNat * 5)) = some (.string ((rd_T84 l0_0 x4_3).f0)) ∧ w'.cell? ⟨(ad194.add ((x4_3).toNat * 5)).block, (ad194.add ((x4_3).toNat * 5)).off + 1, none⟩ = some (.slice A196_1 ((rd_T84 l0_0 x4_3).f1).length c196_1) ∧ w'.cell? ⟨(ad194.add ((x4_3).toNat * 5)).block, (ad194.add ((x4_3).toNat * 5)).off + 2, none⟩ = some (.int .u32 ((rd_T84 l0_0 x4_3).f2)) ∧ w'.cell? ⟨(ad194.add ((x4_3).toNat * 5)).block, (ad194.add ((x4_3).toNat * 5)).off + 3, none⟩ = some (.int .i64 ((rd_T84 l0_0 x4_3).f3)) ∧ w'.cell? ⟨(ad194.add ((x4_3).toNat * 5)).block, (ad194.add ((x4_3).toNat * 5)).off + 4, none⟩ = some (.int .i64 ((rd_T84 l0_0 x4_3).f4)) ∧ w'.cell? (ad194.add ((x20_2).toNat * 5)) = some (.string ((rd_T84 l0_0 x20_2).f0)) ∧ w'.cell? ⟨(ad194.add ((x20_2).toNat * 5)).block, (ad194.add ((x20_2).toNat * 5)).off + 1, none⟩ = some (.slice A197_1 ((rd_T84 l0_0 x20_2).f1).length c197_1) ∧ w'.cell? ⟨(ad194.add ((x20_2).toNat * 5)).block, (ad194.add ((x20_2).toNat * 5)).off + 2, none⟩ = some (.int .u32 ((rd_T84 l0_0 x20_2).f2)) ∧ w'.cell? ⟨(ad194.add ((x20_2).toNat * 5)).block, (ad194.add ((x20_2).toNat * 5)).off + 3, none⟩ = some (.int .i64 ((rd_T84 l0_0 x20_2).f3)) ∧ w'.cell? ⟨(ad194.add ((x20_2).toNat * 5)).block, (ad194.add ((x20_2).toNat * 5)).off + 4, none⟩ = some (.int .i64 ((rd_T84 l0_0 x20_2).f4))) (ds := []) #[false, false, false, false, false, false, false, false, false, false, false, false, false] (by kernel_rfl) rfl rfl ⟨(blk_cell BK193.out 0).trans rfl, (blk_cell BK193.out 1).trans rfl, ((HB.out.cell (World.block_lt_of_cell? w _ hw196_0)).trans hw196_0), ((HB.out.cell (World.block_lt_of_cell? w _ hw196_1)).trans hw196_1), ((HB.out.cell (World.block_lt_of_cell? w _ hw196_2)).trans hw196_2), ((HB.out.cell (World.block_lt_of_cell? w _ hw196_3)).trans hw196_3), ((HB.out.cell (World.block_lt_of_cell? w _ hw196_4)).trans hw196_4), ((HB.out.cell (World.block_lt_of_cell? w _ hw197_0)).trans hw197_0), ((HB.out.cell (World.block_lt_of_cell? w _ hw197_1)).trans hw197_1), ((HB.out.cell (World.block_lt_of_cell? w _ hw197_2)).trans hw197_2), ((HB.out.cell (World.block_lt_of_cell? w _ hw197_3)).trans hw197_3), ((HB.out.cell (World.block_lt_of_cell? w _ hw197_4)).trans hw197_4)⟩ (fun hHeld => ?_); refine with_tabW rowlockref12_May.tab11 rowlockref12_May.bits11 (fun HT_ HW_ => ?_)
                  generalize wr.drew = w22 at BK193 HB HR196_1 HR197_1 hx196_0 hx196_1 hx196_2 hx196_3 hx196_4 hx197_0 hx197_1 hx197_2 hx197_3 hx197_4 hHeld ⊢
                  refine pure_ (i := 0) (N := some 35) (v := ?_) (a' := ?_) #[true, false, false, false, false, false, false, false, false, false, false, false, false] rfl rfl (any_of HT_.out (by kernel_rfl)) (fun _ _ _ h => h) (Or.inl ⟨by rfl, ?_⟩) ?_ ?_
                  rotate_left
                  ·intro w'
                   go_simp
                   with_reducible rfl
                  rotate_left
                  ·simp only [Act.put, List.setIfInBounds_toArray, List.set_cons_zero, List.set_cons_succ, i64_w, i32_w]
                   rfl
                  refine pure_ (i := 2) (N := some 37) (v := ?_) (a' := ?_) #[true, false, true, false, false, false, false, false, false, false, false, false, false] rfl rfl (any_of HT_.out (by kernel_rfl)) (fun _ _ _ h => h) (Or.inl ⟨by rfl, ?_⟩) ?_ ?_
                  rotate_left
                  ·intro w'
                   go_simp
                   with_reducible rfl
                  rotate_left
                  ·simp only [Act.put, List.setIfInBounds_toArray, List.set_cons_zero, List.set_cons_succ, i64_w, i32_w]
                   rfl
                  refine pure_ (i := 6) (N := some 41) (v := ?_) (a' := ?_) #[true, false, true, false, false, false, true, false, false, false, false, false, false] rfl rfl (any_of HT_.out (by kernel_rfl)) (fun _ _ _ h => h) (Or.inl ⟨by rfl, ?_⟩) ?_ ?_
                  rotate_left
                  ·intro w'
                   go_simp
                   with_reducible rfl
                  rotate_left
                  ·simp only [Act.put, List.setIfInBounds_toArray, List.set_cons_zero, List.set_cons_succ, i64_w, i32_w]
                   rfl
                  refine pure_ (i := 8) (N := some 43) (v := ?_) (a' := ?_) #[true, false, true, false, false, false, true, false, true, false, false, false, false] rfl rfl (any_of HT_.out (by kernel_rfl)) (fun _ _ _ h => h) (Or.inl ⟨by rfl, ?_⟩) ?_ ?_
                  rotate_left
                  ·intro w'
                   go_simp
                   with_reducible rfl
                  rotate_left
                  ·simp only [Act.put, List.setIfInBounds_toArray, List.set_cons_zero, List.set_cons_succ, i64_w, i32_w]
                   rfl
                  refine take_ (i := 1) (N := some 36) (v := ?_) (a' := ?_) #[true, true, true, false, false, false, true, false, true, false, false, false, false] rfl rfl (take_ofW HT_.out HW_.out (by kernel_rfl)) (fun _ _ _ h => h) (Or.inl ⟨by rfl, ?_⟩) hHeld ?_ ?_
                  rotate_left
                  ·rintro w' ⟨s0, s1, s2, s3, s4, s5, s6, s7, s8, s9, s10, s11⟩
                   go_simp
                   with_reducible rfl
                  rotate_left
                  ·simp only [Act.put, List.setIfInBounds_toArray, List.set_cons_zero, List.set_cons_succ, i64_w, i32_w]
                   rfl
                  refine pure_ (i := 3) (N := some 38) (v := ?_) (a' := ?_) #[true, true, true, true, false, false, true, false, true, false, false, false, false] rfl rfl (any_of HT_.out (by kernel_rfl)) (fun _ _ _ h => h) (Or.inl ⟨by rfl, ?_⟩) ?_ ?_
                  rotate_left
                  ·intro w'
                   go_simp
                   with_reducible rfl
                  rotate_left
                  ·simp only [Act.put, List.setIfInBounds_toArray, List.set_cons_zero, List.set_cons_succ, i64_w, i32_w]
                   rfl
                  refine pure_ (i := 4) (N := some 39) (v := ?_) (a' := ?_) #[true, true, true, true, true, false, true, false, true, false, false, false, false] rfl rfl (any_of HT_.out (by kernel_rfl)) (fun _ _ _ h => h) (Or.inl ⟨by rfl, ?_⟩) ?_ ?_
                  rotate_left
                  ·intro w'
                   go_simp
                   with_reducible rfl
                  rotate_left
                  ·simp only [Act.put, List.setIfInBounds_toArray, List.set_cons_zero, List.set_cons_succ, i64_w, i32_w]
                   rfl
                  refine take_ (i := 5) (N := some 40) (v := ?_) (a' := ?_) #[true, true, true, true, true, true, true, false, true, false, false, false, false] rfl rfl (take_ofW HT_.out HW_.out (by kernel_rfl)) (fun _ _ _ h => h) (Or.inl ⟨by rfl, ?_⟩) hHeld ?_ ?_
                  rotate_left
                  ·rintro w' ⟨s0, s1, s2, s3, s4, s5, s6, s7, s8, s9, s10, s11⟩
                   go_simp
                   with_reducible rfl
                  rotate_left
                  ·simp only [Act.put, List.setIfInBounds_toArray, List.set_cons_zero, List.set_cons_succ, i64_w, i32_w]
                   rfl
                  refine take_ (i := 7) (N := some 42) (v := ?_) (a' := ?_) #[true, true, true, true, true, true, true, true, true, false, false, false, false] rfl rfl (take_ofW HT_.out HW_.out (by kernel_rfl)) (fun _ _ _ h => h) (Or.inl ⟨by rfl, ?_⟩) hHeld ?_ ?_
                  rotate_left
                  ·rintro w' ⟨s0, s1, s2, s3, s4, s5, s6, s7, s8, s9, s10, s11⟩
                   go_simp
                   with_reducible rfl
                  rotate_left
                  ·simp only [Act.put, List.setIfInBounds_toArray, List.set_cons_zero, List.set_cons_succ, i64_w, i32_w]
                   rfl
                  refine pure_ (i := 9) (N := some 44) (v := ?_) (a' := ?_) #[true, true, true, true, true, true, true, true, true, true, false, false, false] rfl rfl (any_of HT_.out (by kernel_rfl)) (fun _ _ _ h => h) (Or.inl ⟨by rfl, ?_⟩) ?_ ?_
                  rotate_left
                  ·intro w'
                   go_simp
                   with_reducible rfl
                  rotate_left
                  ·simp only [Act.put, List.setIfInBounds_toArray, List.set_cons_zero, List.set_cons_succ, i64_w, i32_w]
                   rfl
                  refine pure_ (i := 10) (N := some 45) (v := ?_) (a' := ?_) #[true, true, true, true, true, true, true, true, true, true, true, false, false] rfl rfl (any_of HT_.out (by kernel_rfl)) (fun _ _ _ h => h) (Or.inl ⟨by rfl, ?_⟩) ?_ ?_
                  rotate_left
                  ·intro w'
                   go_simp
                   with_reducible rfl
                  rotate_left
                  ·simp only [Act.put, List.setIfInBounds_toArray, List.set_cons_zero, List.set_cons_succ, i64_w, i32_w]
                   rfl
                  refine take_ (i := 11) (N := some 46) (v := ?_) (a' := ?_) #[true, true, true, true, true, true, true, true, true, true, true, true, false] rfl rfl (take_ofW HT_.out HW_.out (by kernel_rfl)) (fun _ _ _ h => h) (Or.inl ⟨by rfl, ?_⟩) hHeld ?_ ?_
                  rotate_left
                  ·rintro w' ⟨s0, s1, s2, s3, s4, s5, s6, s7, s8, s9, s10, s11⟩
                   go_simp
                   with_reducible rfl
                  rotate_left
                  ·simp only [Act.put, List.setIfInBounds_toArray, List.set_cons_zero, List.set_cons_succ, i64_w, i32_w]
                   rfl
                  refine pure_ (i := 12) (N := some 47) (v := ?_) (a' := ?_) #[true, true, true, true, true, true, true, true, true, true, true, true, true] rfl rfl (any_of HT_.out (by kernel_rfl)) (fun _ _ _ h => h) (Or.inl ⟨by rfl, ?_⟩) ?_ ?_
                  rotate_left
                  ·intro w'
                   go_simp
                   with_reducible rfl
                  rotate_left
                  ·simp only [Act.put, List.setIfInBounds_toArray, List.set_cons_zero, List.set_cons_succ, i64_w, i32_w]
                   rfl
                  refine done_ (done_of HT_.out (by kernel_rfl)) ?_
                  try go_wp2
                  go_ret
                  exact ⟨by first | rfl | (simp [errW_none, errW_some] <;> rfl) | (simp [*, errW_none, errW_some] <;> rfl), by repeat (first | (with_reducible first | exact HB.out | apply below_alloc | apply pw_below_drewN | apply below_drew1 | refine below_set ?_ GE193.out) | exact HB.out)⟩
                 ·rw [if_neg c21] at H
                  have c21b0 : (((rd_T84 l0_0 x4_3).f0).toList == ((rd_T84 l0_0 x20_2).f0).toList) = false := beq_eq_false_iff_ne.mpr c21
                  have c21b1 : (((rd_T84 l0_0 x4_3).f0).toList != ((rd_T84 l0_0 x20_2).f0).toList) = true := bne_iff_ne.mpr c21
                  have H' := Aside0.mk H
                  clear H
                  try go_wp2
                  have n0_ := Aside0.mk (blk_drew BK193.out)
                  have n1_ := Aside0.mk (below_drew1 HB.out)
                  clear BK193
                  clear HB
                  have BK193 := n0_
                  have HB := n1_
                  clear n0_ n1_
                  have p196 : 0 ≤ (x4_3 : Int) := of_decide_eq_true (by first | (with_reducible assumption) | assumption)
                  have q196 : x4_3 < (l0_0.length : Int) := of_decide_eq_true (by first | (with_reducible assumption) | assumption)
                  obtain ⟨ad196, A196_1, c196_1, e196, hx196_0, hx196_1, hx196_2, hx196_3, hx196_4, hl196_1, hi196_1⟩ := at_T84 HR0_0.out x4_3 p196 q196
                  have hw196_4 := hx196_4
                  have hw196_3 := hx196_3
                  have hw196_2 := hx196_2
                  have hw196_1 := hx196_1
                  have hw196_0 := hx196_0
                  obtain rfl : ad194 = ad196 := (by injection e196)
                  replace hx196_0 := (HB.out.cell (World.block_lt_of_cell? w _ hx196_0)).trans hx196_0
                  replace hx196_1 := (HB.out.cell (World.block_lt_of_cell? w _ hx196_1)).trans hx196_1
                  replace hx196_2 := (HB.out.cell (World.block_lt_of_cell? w _ hx196_2)).trans hx196_2
                  replace hx196_3 := (HB.out.cell (World.block_lt_of_cell? w _ hx196_3)).trans hx196_3
                  replace hx196_4 := (HB.out.cell (World.block_lt_of_cell? w _ hx196_4)).trans hx196_4
                  have HR196_1 := Aside0.mk hi196_1
                  have HC196_1 := Aside0.mk hl196_1
                  clear hi196_1 hl196_1
                  replace p196 := eq_true p196
                  have p196D := p196; try simp only [List.length_drop, List.length_take] at p196D
                  replace q196 := eq_true q196
                  have q196D := q196; try simp only [List.length_drop, List.length_take] at q196D
                  have p197 : 0 ≤ (x20_2 : Int) := of_decide_eq_true (by first | (with_reducible assumption) | assumption)
                  have q197 : x20_2 < (l0_0.length : Int) := of_decide_eq_true (by first | (with_reducible assumption) | assumption)
                  obtain ⟨ad197, A197_1, c197_1, e197, hx197_0, hx197_1, hx197_2, hx197_3, hx197_4, hl197_1, hi197_1⟩ := at_T84 HR0_0.out x20_2 p197 q197
                  have hw197_4 := hx197_4
                  have hw197_3 := hx197_3
                  have hw197_2 := hx197_2
                  have hw197_1 := hx197_1
                  have hw197_0 := hx197_0
                  obtain rfl : ad194 = ad197 := (by injection e197)
                  replace hx197_0 := (HB.out.cell (World.block_lt_of_cell? w _ hx197_0)).trans hx197_0
                  replace hx197_1 := (HB.out.cell (World.block_lt_of_cell? w _ hx197_1)).trans hx197_1
                  replace hx197_2 := (HB.out.cell (World.block_lt_of_cell? w _ hx197_2)).trans hx197_2
                  replace hx197_3 := (HB.out.cell (World.block_lt_of_cell? w _ hx197_3)).trans hx197_3
                  replace hx197_4 := (HB.out.cell (World.block_lt_of_cell? w _ hx197_4)).trans hx197_4
                  have HR197_1 := Aside0.mk hi197_1
                  have HC197_1 := Aside0.mk hl197_1
                  clear hi197_1 hl197_1
                  replace p197 := eq_true p197
                  have p197D := p197; try simp only [List.length_drop, List.length_take] at p197D
                  replace q197 := eq_true q197
                  have q197D := q197; try simp only [List.length_drop, List.length_take] at q197D
                  refine start_ (n := 13) (S := fun w' => w'.cell? ⟨gb193, 0, none⟩ = some (.slice (some ad194) l0_0.length c0_0) ∧ w'.cell? ⟨gb193, 1, none⟩ = some (.slice A0_1 l0_1.length c0_1) ∧ w'.cell? (ad194.add ((x4_3).toNat * 5)) = some (.string ((rd_T84 l0_0 x4_3).f0)) ∧ w'.cell? ⟨(ad194.add ((x4_3).toNat * 5)).block, (ad194.add ((x4_3).toNat * 5)).off + 1, none⟩ = some (.slice A196_1 ((rd_T84 l0_0 x4_3).f1).length c196_1) ∧ w'.cell? ⟨(ad194.add ((x4_3).toNat * 5)).block, (ad194.add ((x4_3).toNat * 5)).off + 2, none⟩ = some (.int .u32 ((rd_T84 l0_0 x4_3).f2)) ∧ w'.cell? ⟨(ad194.add ((x4_3).toNat * 5)).block, (ad194.add ((x4_3).toNat * 5)).off + 3, none⟩ = some (.int .i64 ((rd_T84 l0_0 x4_3).f3)) ∧ w'.cell? ⟨(ad194.add ((x4_3).toNat * 5)).block, (ad194.add ((x4_3).toNat * 5)).off + 4, none⟩ = some (.int .i64 ((rd_T84 l0_0 x4_3).f4)) ∧ w'.cell? (ad194.add ((x20_2).toNat * 5)) = some (.string ((rd_T84 l0_0 x20_2).f0)) ∧ w'.cell? ⟨(ad194.add ((x20_2).toNat * 5)).block, (ad194.add ((x20_2).toNat * 5)).off + 1, none⟩ = some (.slice A197_1 ((rd_T84 l0_0 x20_2).f1).length c197_1) ∧ w'.cell? ⟨(ad194.add ((x20_2).toNat * 5)).block, (ad194.add ((x20_2).toNat * 5)).off + 2, none⟩ = some (.int .u32 ((rd_T84 l0_0 x20_2).f2)) ∧ w'.cell? ⟨(ad194.add ((x20_2).toNat * 5)).block, (ad194.add ((x20_2).toNat * 5)).off + 3, none⟩ = some (.int .i64 ((rd_T84 l0_0 x20_2).f3)) ∧ w'.cell? ⟨(ad194.add ((x20_2).toNat * 5)).block, (ad194.add ((x20_2).toNat * 5)).off + 4, none⟩ = some (.int .i64 ((rd_T84 l0_0 x20_2).f4))) (ds := []) #[false, false, false, false, false, false, false, false, false, false, false, false, false] (by kernel_rfl) rfl rfl ⟨(blk_cell BK193.out 0).trans rfl, (blk_cell BK193.out 1).trans rfl, ((HB.out.cell (World.block_lt_of_cell? w _ hw196_0)).trans hw196_0), ((HB.out.cell (World.block_lt_of_cell? w _ hw196_1)).trans hw196_1), ((HB.out.cell (World.block_lt_of_cell? w _ hw196_2)).trans hw196_2), ((HB.out.cell (World.block_lt_of_cell? w _ hw196_3)).trans hw196_3), ((HB.out.cell (World.block_lt_of_cell? w _ hw196_4)).trans hw196_4), ((HB.out.cell (World.block_lt_of_cell? w _ hw197_0)).trans hw197_0), ((HB.out.cell (World.block_lt_of_cell? w _ hw197_1)).trans hw197_1), ((HB.out.cell (World.block_lt_of_cell? w _ hw197_2)).trans hw197_2), ((HB.out.cell (World.block_lt_of_cell? w _ hw197_3)).trans hw197_3), ((HB.out.cell (World.block_lt_of_cell? w _ hw197_4)).trans hw197_4)⟩ (fun hHeld => ?_); refine with_tabW rowlockref12_May.tab11 rowlockref12_May.bits11 (fun HT_ HW_ => ?_)
                  generalize wr.drew = w23 at BK193 HB HR196_1 HR197_1 hx196_0 hx196_1 hx196_2 hx196_3 hx196_4 hx197_0 hx197_1 hx197_2 hx197_3 hx197_4 hHeld ⊢
                  refine pure_ (i := 0) (N := some 35) (v := ?_) (a' := ?_) #[true, false, false, false, false, false, false, false, false, false, false, false, false] rfl rfl (any_of HT_.out (by kernel_rfl)) (fun _ _ _ h => h) (Or.inl ⟨by rfl, ?_⟩) ?_ ?_
                  rotate_left
                  ·intro w'
                   go_simp
                   with_reducible rfl
                  rotate_left
                  ·simp only [Act.put, List.setIfInBounds_toArray, List.set_cons_zero, List.set_cons_succ, i64_w, i32_w]
                   rfl
                  refine pure_ (i := 2) (N := some 37) (v := ?_) (a' := ?_) #[true, false, true, false, false, false, false, false, false, false, false, false, false] rfl rfl (any_of HT_.out (by kernel_rfl)) (fun _ _ _ h => h) (Or.inl ⟨by rfl, ?_⟩) ?_ ?_
                  rotate_left
                  ·intro w'
                   go_simp
                   with_reducible rfl
                  rotate_left
                  ·simp only [Act.put, List.setIfInBounds_toArray, List.set_cons_zero, List.set_cons_succ, i64_w, i32_w]
                   rfl
                  refine pure_ (i := 6) (N := some 41) (v := ?_) (a' := ?_) #[true, false, true, false, false, false, true, false, false, false, false, false, false] rfl rfl (any_of HT_.out (by kernel_rfl)) (fun _ _ _ h => h) (Or.inl ⟨by rfl, ?_⟩) ?_ ?_
                  rotate_left
                  ·intro w'
                   go_simp
                   with_reducible rfl
                  rotate_left
                  ·simp only [Act.put, List.setIfInBounds_toArray, List.set_cons_zero, List.set_cons_succ, i64_w, i32_w]
                   rfl
                  refine pure_ (i := 8) (N := some 43) (v := ?_) (a' := ?_) #[true, false, true, false, false, false, true, false, true, false, false, false, false] rfl rfl (any_of HT_.out (by kernel_rfl)) (fun _ _ _ h => h) (Or.inl ⟨by rfl, ?_⟩) ?_ ?_
                  rotate_left
                  ·intro w'
                   go_simp
                   with_reducible rfl
                  rotate_left
                  ·simp only [Act.put, List.setIfInBounds_toArray, List.set_cons_zero, List.set_cons_succ, i64_w, i32_w]
                   rfl
                  refine take_ (i := 1) (N := some 36) (v := ?_) (a' := ?_) #[true, true, true, false, false, false, true, false, true, false, false, false, false] rfl rfl (take_ofW HT_.out HW_.out (by kernel_rfl)) (fun _ _ _ h => h) (Or.inl ⟨by rfl, ?_⟩) hHeld ?_ ?_
                  rotate_left
                  ·rintro w' ⟨s0, s1, s2, s3, s4, s5, s6, s7, s8, s9, s10, s11⟩
                   go_simp
                   with_reducible rfl
                  rotate_left
                  ·simp only [Act.put, List.setIfInBounds_toArray, List.set_cons_zero, List.set_cons_succ, i64_w, i32_w]
                   rfl
                  refine pure_ (i := 3) (N := some 38) (v := ?_) (a' := ?_) #[true, true, true, true, false, false, true, false, true, false, false, false, false] rfl rfl (any_of HT_.out (by kernel_rfl)) (fun _ _ _ h => h) (Or.inl ⟨by rfl, ?_⟩) ?_ ?_
                  rotate_left
                  ·intro w'
                   go_simp
                   with_reducible rfl
                  rotate_left
                  ·simp only [Act.put, List.setIfInBounds_toArray, List.set_cons_zero, List.set_cons_succ, i64_w, i32_w]
                   rfl
                  refine pure_ (i := 4) (N := some 39) (v := ?_) (a' := ?_) #[true, true, true, true, true, false, true, false, true, false, false, false, false] rfl rfl (any_of HT_.out (by kernel_rfl)) (fun _ _ _ h => h) (Or.inl ⟨by rfl, ?_⟩) ?_ ?_
                  rotate_left
                  ·intro w'
                   go_simp
                   with_reducible rfl
                  rotate_left
                  ·simp only [Act.put, List.setIfInBounds_toArray, List.set_cons_zero, List.set_cons_succ, i64_w, i32_w]
                   rfl
                  refine take_ (i := 5) (N := some 40) (v := ?_) (a' := ?_) #[true, true, true, true, true, true, true, false, true, false, false, false, false] rfl rfl (take_ofW HT_.out HW_.out (by kernel_rfl)) (fun _ _ _ h => h) (Or.inl ⟨by rfl, ?_⟩) hHeld ?_ ?_
                  rotate_left
                  ·rintro w' ⟨s0, s1, s2, s3, s4, s5, s6, s7, s8, s9, s10, s11⟩
                   go_simp
                   with_reducible rfl
                  rotate_left
                  ·simp only [Act.put, List.setIfInBounds_toArray, List.set_cons_zero, List.set_cons_succ, i64_w, i32_w]
                   rfl
                  refine take_ (i := 7) (N := some 42) (v := ?_) (a' := ?_) #[true, true, true, true, true, true, true, true, true, false, false, false, false] rfl rfl (take_ofW HT_.out HW_.out (by kernel_rfl)) (fun _ _ _ h => h) (Or.inl ⟨by rfl, ?_⟩) hHeld ?_ ?_
                  rotate_left
                  ·rintro w' ⟨s0, s1, s2, s3, s4, s5, s6, s7, s8, s9, s10, s11⟩
                   go_simp
                   with_reducible rfl
                  rotate_left
                  ·simp only [Act.put, List.setIfInBounds_toArray, List.set_cons_zero, List.set_cons_succ, i64_w, i32_w]
                   rfl
                  refine pure_ (i := 9) (N := some 44) (v := ?_) (a' := ?_) #[true, true, true, true, true, true, true, true, true, true, false, false, false] rfl rfl (any_of HT_.out (by kernel_rfl)) (fun _ _ _ h => h) (Or.inl ⟨by rfl, ?_⟩) ?_ ?_
                  rotate_left
                  ·intro w'
                   go_simp
                   with_reducible rfl
                  rotate_left
                  ·simp only [Act.put, List.setIfInBounds_toArray, List.set_cons_zero, List.set_cons_succ, i64_w, i32_w]
                   rfl
                  refine pure_ (i := 10) (N := some 45) (v := ?_) (a' := ?_) #[true, true, true, true, true, true, true, true, true, true, true, false, false] rfl rfl (any_of HT_.out (by kernel_rfl)) (fun _ _ _ h => h) (Or.inl ⟨by rfl, ?_⟩) ?_ ?_
                  rotate_left
                  ·intro w'
                   go_simp
                   with_reducible rfl
                  rotate_left
                  ·simp only [Act.put, List.setIfInBounds_toArray, List.set_cons_zero, List.set_cons_succ, i64_w, i32_w]
                   rfl
                  refine take_ (i := 11) (N := some 46) (v := ?_) (a' := ?_) #[true, true, true, true, true, true, true, true, true, true, true, true, false] rfl rfl (take_ofW HT_.out HW_.out (by kernel_rfl)) (fun _ _ _ h => h) (Or.inl ⟨by rfl, ?_⟩) hHeld ?_ ?_
                  rotate_left
                  ·rintro w' ⟨s0, s1, s2, s3, s4, s5, s6, s7, s8, s9, s10, s11⟩
                   go_simp
                   with_reducible rfl
                  rotate_left
                  ·simp only [Act.put, List.setIfInBounds_toArray, List.set_cons_zero, List.set_cons_succ, i64_w, i32_w]
                   rfl
                  refine pure_ (i := 12) (N := some 47) (v := ?_) (a' := ?_) #[true, true, true, true, true, true, true, true, true, true, true, true, true] rfl rfl (any_of HT_.out (by kernel_rfl)) (fun _ _ _ h => h) (Or.inl ⟨by rfl, ?_⟩) ?_ ?_
                  rotate_left
                  ·intro w'
                   go_simp
                   with_reducible rfl
                  rotate_left
                  ·simp only [Act.put, List.setIfInBounds_toArray, List.set_cons_zero, List.set_cons_succ, i64_w, i32_w]
                   rfl
                  refine done_ (done_of HT_.out (by kernel_rfl)) ?_
                  try go_wp2
                  go_roundg k3
                  case measure => have := HJ1.out; have := HK2.out; have := HK3.out; omega
                  case rel => exact ⟨(wrap64 (x4_3 + 1)), (by first | rfl | (simp; done) | (simp [*]; done)), H', ⟨by have := HJ1.out; have := HK2.out; have := HK3.out; omega⟩, ⟨by (with_reducible repeat (first | refine blk_drewN ?_ _ | refine blk_drew ?_ | refine blk_alloc ?_ _)); exact BK193.out⟩, ⟨by repeat (first | (with_reducible first | exact HB.out | apply below_alloc | apply pw_below_drewN | apply below_drew1 | refine below_set ?_ GE193.out) | exact HB.out)⟩⟩
                ·rw [if_neg c20] at H
                 exact absurd H (by simp)
               ·rw [if_neg c19] at H
                exact absurd H (by simp)
              ·rw [if_neg c18] at H
               exact absurd H (by simp)
             ·rw [if_neg c17] at H
              exact absurd H (by simp)
            ·rw [if_neg c16] at H
             have c16b0 : decide (x4_3 < x20_2) = false := decide_eq_false c16
             clear c16
             have H' := Aside0.mk H
             clear H
             go_wp2
             go_roundg k3
             case measure => have := HJ1.out; have := HK2.out; have := HK3.out; omega
             case rel => exact ⟨(wrap64 (x20_2 + 1)), (by first | rfl | (simp; done) | (simp [*]; done)), H', ⟨by have := HJ1.out; have := HK2.out; have := HK3.out; omega⟩, ⟨by (with_reducible repeat (first | refine blk_drewN ?_ _ | refine blk_drew ?_ | refine blk_alloc ?_ _)); exact BK193.out⟩, ⟨by repeat (first | (with_reducible first | exact HB.out | apply below_alloc | apply pw_below_drewN | apply below_drew1 | refine below_set ?_ GE193.out) | exact HB.out)⟩⟩
         ·replace c13 := Bool.eq_false_iff.mpr c13
          subst c13
          have H1 : (some false) = some r := by rw [if_neg (show ¬ (false = true) by decide)] at H; exact H
          clear H
          have H := H1
          clear H1
          obtain rfl := Option.some.inj H
          have hcz24_0 : wr.cell? ⟨gb193, 0, none⟩ = some (.slice A0_0 l0_0.length c0_0) := (blk_cell BK193.out 0).trans rfl
          have hcz24_1 : wr.cell? ⟨gb193, 1, none⟩ = some (.slice A0_1 l0_1.length c0_1) := (blk_cell BK193.out 1).trans rfl
          have hfz24_0 := blk_frozen BK193.out 0
          have hfz24_1 := blk_frozen BK193.out 1
          have p194 : 0 ≤ (x20_2 : Int) := of_decide_eq_true (by first | (with_reducible assumption) | assumption)
          have q194 : x20_2 < (l0_0.length : Int) := of_decide_eq_true (by first | (with_reducible assumption) | assumption)
          obtain ⟨ad194, A194_1, c194_1, e194, hx194_0, hx194_1, hx194_2, hx194_3, hx194_4, hl194_1, hi194_1⟩ := at_T84 HR0_0.out x20_2 p194 q194
          cases e194
          replace hx194_0 := (HB.out.cell (World.block_lt_of_cell? w _ hx194_0)).trans hx194_0
          replace hx194_1 := (HB.out.cell (World.block_lt_of_cell? w _ hx194_1)).trans hx194_1
          replace hx194_2 := (HB.out.cell (World.block_lt_of_cell? w _ hx194_2)).trans hx194_2
          replace hx194_3 := (HB.out.cell (World.block_lt_of_cell? w _ hx194_3)).trans hx194_3
          replace hx194_4 := (HB.out.cell (World.block_lt_of_cell? w _ hx194_4)).trans hx194_4
          have HR194_1 := Aside0.mk hi194_1
          have HC194_1 := Aside0.mk hl194_1
          clear hi194_1 hl194_1
          replace p194 := eq_true p194
          have p194D := p194; try simp only [List.length_drop, List.length_take] at p194D
          replace q194 := eq_true q194
          have q194D := q194; try simp only [List.length_drop, List.length_take] at q194D
          go_wp2_with (first | ((with_reducible refine gate_callee (f := 57) rfl ?_); refine goesL_ (some 28) rfl rfl Try.func57 (by kernel_rfl) rfl #[.agg #[.string ((rd_T84 l0_0 x20_2).f0), .slice A194_1 ((rd_T84 l0_0 x20_2).f1).length c194_1, .int .u32 ((rd_T84 l0_0 x20_2).f2), .int .i64 ((rd_T84 l0_0 x20_2).f3), .int .i64 ((rd_T84 l0_0 x20_2).f4)]] rfl (by (try simp only [List.map_toArray, List.map_cons, List.map_nil]); first | done | rfl | (simp only [List.length_drop, List.length_take]; rfl)) ?_; (with_reducible refine (rowlockref12_table.calls k2 ((rd_T84 l0_0 x20_2).f0) _ _ ((rd_T84 l0_0 x20_2).f1) ((rd_T84 l0_0 x20_2).f2) ((rd_T84 l0_0 x20_2).f3) ((rd_T84 l0_0 x20_2).f4) false _ ?side1 ?side2 A12.out).mono ?_); (case side1 => repeat (first | exact (Kd.C_below HR194_1.out HB.out) | (with_reducible refine Kd.C_alloc ?_ _) | (with_reducible refine Kd.C_drewN ?_ _) | (with_reducible refine Kd.C_drew ?_))); (case side2 => exact HC194_1.out); rintro e w25 ⟨rfl, hb⟩; refine ⟨_, rfl, ?_⟩; have n0_ := Aside0.mk (blk_below (g := gb193) (o := .cells #[.slice (some ad194) l0_0.length c0_0, .slice A0_1 l0_1.length c0_1] 80 (0, 0)) (by (with_reducible repeat (first | refine blk_drewN ?_ _ | refine blk_drew ?_ | refine blk_alloc ?_ _)); exact BK193.out) hb); have n1_ := Aside0.mk (below_step (by repeat (first | (with_reducible first | exact HB.out | apply below_alloc | apply pw_below_drewN | apply below_drew1 | refine below_set ?_ GE193.out) | exact HB.out)) hb); clear BK193; clear HB; have BK193 := n0_; have HB := n1_; clear n0_ n1_; (try clear hb); (try clear hb2); (try clear hk); (try clear hi)))
          go_ret
          exact ⟨by first | rfl | (simp [errW_none, errW_some] <;> rfl) | (simp [*, errW_none, errW_some] <;> rfl), by repeat (first | (with_reducible first | exact HB.out | apply below_alloc | apply pw_below_drewN | apply below_drew1 | refine below_set ?_ GE193.out) | exact HB.out)⟩
        ·rw [if_neg c11] at H
         exact absurd H (by simp)
       ·rw [if_neg c10] at H
        exact absurd H (by simp)
      ·rw [if_neg c9] at H
       have c9b0 : decide (x20_2 < (l0_0.length : Int)) = false := decide_eq_false c9
       clear c9
       have H' := Aside0.mk H
       clear H
       have hcz26_0 : wr.cell? ⟨gb193, 0, none⟩ = some (.slice A0_0 l0_0.length c0_0) := (blk_cell BK193.out 0).trans rfl
       have hcz26_1 : wr.cell? ⟨gb193, 1, none⟩ = some (.slice A0_1 l0_1.length c0_1) := (blk_cell BK193.out 1).trans rfl
       have hfz26_0 := blk_frozen BK193.out 0
       have hfz26_1 := blk_frozen BK193.out 1
       go_wp2
       go_loopg [52] k2 (fun kq v52 w' => ∃ (x52_3 : Int), v52 = .int .i64 x52_3 ∧ Aside0 (rowlockref12_May.l2 kq (l0_1.length : Int) x52_3 l0_0 l0_1 = some r) ∧ Aside0 (kq ≤ k2) ∧ Aside0 (w'.heap[gb193]? = some (.cells #[(.slice A0_0 l0_0.length c0_0), (.slice A0_1 l0_1.length c0_1)] 80 (0, 0))) ∧ Aside0 (Below w.heap.size w w'))
       case atStart => exact ⟨(0), (by first | rfl | (simp; done) | (simp [*]; done)), H', ⟨Nat.le_refl _⟩, ⟨by (with_reducible repeat (first | refine blk_drewN ?_ _ | refine blk_drew ?_ | refine blk_alloc ?_ _)); exact BK193.out⟩, ⟨by repeat (first | (with_reducible first | exact HB.out | apply below_alloc | apply pw_below_drewN | apply below_drew1 | refine below_set ?_ GE193.out) | exact HB.out)⟩⟩
       case round =>
        clear H'
        try clear c1
        try clear p1
        try clear q1
        try clear hx1
        try clear c2
        try clear p2
        try clear c3
        try clear c4
        try clear c4b0
        try clear c4b1
        try clear c5
        try clear p6
        try clear c7
        try clear c9
        try clear c9b0
        try clear c10
        try clear c10b0
        try clear c11
        try clear c11b0
        try clear c13
        try clear c16
        try clear c16b0
        try clear c17
        try clear c17b0
        try clear c18
        try clear c18b0
        try clear c19
        try clear c19b0
        try clear p19
        try clear q19
        try clear hx19
        try clear c20
        try clear c20b0
        try clear c21
        try clear c21b0
        try clear c21b1
        try clear hcz14_0
        try clear hcz14_1
        try clear hcz24_0
        try clear hcz24_1
        try clear hcz26_0
        try clear hcz26_1
        try clear hcz5_0
        try clear hcz5_1
        try clear hcz6_0
        try clear hcz6_1
        try clear hcz8_0
        try clear hcz8_1
        try clear hfz14_0
        try clear hfz14_1
        try clear hfz24_0
        try clear hfz24_1
        try clear hfz26_0
        try clear hfz26_1
        try clear hfz5_0
        try clear hfz5_1
        try clear hfz6_0
        try clear hfz6_1
        try clear hfz8_0
        try clear hfz8_1
        try clear hx194_0
        try clear hx194_1
        try clear hx194_2
        try clear hx194_3
        try clear hx194_4
        try clear hx196_0
        try clear hx196_1
        try clear hx196_2
        try clear hx196_3
        try clear hx196_4
        try clear hx197_0
        try clear hx197_1
        try clear hx197_2
        try clear hx197_3
        try clear hx197_4
        try clear p1
        try clear p194
        try clear p196
        try clear p197
        try clear p2
        try clear q1
        try clear q194
        try clear q196
        try clear q197
        obtain ⟨x52_3, rfl, HA, HK3, BK193, HB⟩ := hrel
        cases gk with
        | zero => exact absurd HA.out (by simp [rowlockref12_May.l2])
        | succ k3 =>
         have H := HA.out
         clear HA
         simp only [rowlockref12_May.l2] at H
         by_cases c27 : x52_3 < (l0_1.length : Int)
         ·rw [if_pos c27] at H
          have c27b0 : decide (x52_3 < (l0_1.length : Int)) = true := decide_eq_true c27
          clear c27
          by_cases c28 : 0 ≤ x52_3
          ·rw [if_pos c28] at H
           have c28b0 : decide (0 ≤ x52_3) = true := decide_eq_true c28
           clear c28
           by_cases c29 : x52_3 < (l0_1.length : Int)
           ·rw [if_pos c29] at H
            have c29b0 : decide (x52_3 < (l0_1.length : Int)) = true := decide_eq_true c29
            clear c29
            replace H := Option.bind_eq_some_iff.mp H
            obtain ⟨t199, A300, H⟩ := H
            replace H : (if t199 = true then (rowlockref12_May.l3 k3 x52_3 0 (l0_1.length : Int) x52_3 l0_0 l0_1) else (some false)) = some r := H
            have A30 := Aside0.mk A300
            clear A300
            by_cases c31 : t199 = true
            ·subst c31
             have H1 : (rowlockref12_May.l3 k3 x52_3 0 (l0_1.length : Int) x52_3 l0_0 l0_1) = some r := by rw [if_pos rfl] at H; exact H
             clear H
             have H := H1
             clear H1
             have H' := Aside0.mk H
             clear H
             try go_wp2
             have n0_ := Aside0.mk (blk_drew BK193.out)
             have n1_ := Aside0.mk (below_drew1 HB.out)
             clear BK193
             clear HB
             have BK193 := n0_
             have HB := n1_
             clear n0_ n1_
             have p198 : 0 ≤ (x52_3 : Int) := of_decide_eq_true (by first | (with_reducible assumption) | assumption)
             have q198 : x52_3 < (l0_1.length : Int) := of_decide_eq_true (by first | (with_reducible assumption) | assumption)
             obtain ⟨ad198, A198_2, c198_2, A198_6, c198_6, e198, hx198_0, hx198_1, hx198_2, hx198_3, hx198_4, hx198_5, hx198_6, hl198_2, hi198_2, hl198_6, hi198_6⟩ := at_T135 HR0_1.out x52_3 p198 q198
             have hw198_6 := hx198_6
             have hw198_5 := hx198_5
             have hw198_4 := hx198_4
             have hw198_3 := hx198_3
             have hw198_2 := hx198_2
             have hw198_1 := hx198_1
             have hw198_0 := hx198_0
             cases e198
             replace hx198_0 := (HB.out.cell (World.block_lt_of_cell? w _ hx198_0)).trans hx198_0
             replace hx198_1 := (HB.out.cell (World.block_lt_of_cell? w _ hx198_1)).trans hx198_1
             replace hx198_2 := (HB.out.cell (World.block_lt_of_cell? w _ hx198_2)).trans hx198_2
             replace hx198_3 := (HB.out.cell (World.block_lt_of_cell? w _ hx198_3)).trans hx198_3
             replace hx198_4 := (HB.out.cell (World.block_lt_of_cell? w _ hx198_4)).trans hx198_4
             replace hx198_5 := (HB.out.cell (World.block_lt_of_cell? w _ hx198_5)).trans hx198_5
             replace hx198_6 := (HB.out.cell (World.block_lt_of_cell? w _ hx198_6)).trans hx198_6
             have HR198_2 := Aside0.mk hi198_2
             have HC198_2 := Aside0.mk hl198_2
             clear hi198_2 hl198_2
             have HR198_6 := Aside0.mk hi198_6
             have HC198_6 := Aside0.mk hl198_6
             clear hi198_6 hl198_6
             replace p198 := eq_true p198
             have p198D := p198; try simp only [List.length_drop, List.length_take] at p198D
             replace q198 := eq_true q198
             have q198D := q198; try simp only [List.length_drop, List.length_take] at q198D
             refine start_ (n := 8) (S := fun w' => w'.cell? ⟨gb193, 0, none⟩ = some (.slice A0_0 l0_0.length c0_0) ∧ w'.cell? ⟨gb193, 1, none⟩ = some (.slice (some ad198) l0_1.length c0_1) ∧ w'.cell? (ad198.add ((x52_3).toNat * 7)) = some (.string ((rd_T135 l0_1 x52_3).f0)) ∧ w'.cell? ⟨(ad198.add ((x52_3).toNat * 7)).block, (ad198.add ((x52_3).toNat * 7)).off + 1, none⟩ = some (.int .i64 ((rd_T135 l0_1 x52_3).f1)) ∧ w'.cell? ⟨(ad198.add ((x52_3).toNat * 7)).block, (ad198.add ((x52_3).toNat * 7)).off + 2, none⟩ = some (.slice A198_2 ((rd_T135 l0_1 x52_3).f2).length c198_2) ∧ w'.cell? ⟨(ad198.add ((x52_3).toNat * 7)).block, (ad198.add ((x52_3).toNat * 7)).off + 3, none⟩ = some (.int .u32 ((rd_T135 l0_1 x52_3).f3)) ∧ w'.cell? ⟨(ad198.add ((x52_3).toNat * 7)).block, (ad198.add ((x52_3).toNat * 7)).off + 4, none⟩ = some (.int .i64 ((rd_T135 l0_1 x52_3).f4)) ∧ w'.cell? ⟨(ad198.add ((x52_3).toNat * 7)).block, (ad198.add ((x52_3).toNat * 7)).off + 5, none⟩ = some (.int .i64 ((rd_T135 l0_1 x52_3).f5)) ∧ w'.cell? ⟨(ad198.add ((x52_3).toNat * 7)).block, (ad198.add ((x52_3).toNat * 7)).off + 6, none⟩ = some (.slice A198_6 ((rd_T135 l0_1 x52_3).f6).length c198_6)) (ds := []) #[false, false, false, false, false, false, false, false] (by kernel_rfl) rfl rfl ⟨(blk_cell BK193.out 0).trans rfl, (blk_cell BK193.out 1).trans rfl, ((HB.out.cell (World.block_lt_of_cell? w _ hw198_0)).trans hw198_0), ((HB.out.cell (World.block_lt_of_cell? w _ hw198_1)).trans hw198_1), ((HB.out.cell (World.block_lt_of_cell? w _ hw198_2)).trans hw198_2), ((HB.out.cell (World.block_lt_of_cell? w _ hw198_3)).trans hw198_3), ((HB.out.cell (World.block_lt_of_cell? w _ hw198_4)).trans hw198_4), ((HB.out.cell (World.block_lt_of_cell? w _ hw198_5)).trans hw198_5), ((HB.out.cell (World.block_lt_of_cell? w _ hw198_6)).trans hw198_6)⟩ (fun hHeld => ?_); refine with_tabW rowlockref12_May.tab17 rowlockref12_May.bits17 (fun HT_ HW_ => ?_)
             generalize wr.drew = w32 at BK193 HB HR198_2 HR198_6 hx198_0 hx198_1 hx198_2 hx198_3 hx198_4 hx198_5 hx198_6 hHeld ⊢
             refine pure_ (i := 1) (N := some 56) (v := ?_) (a' := ?_) #[false, true, false, false, false, false, false, false] rfl rfl (any_of HT_.out (by kernel_rfl)) (fun _ _ _ h => h) (Or.inl ⟨by rfl, ?_⟩) ?_ ?_
             rotate_left
             ·intro w'
              go_simp
              with_reducible rfl
             rotate_left
             ·simp only [Act.put, List.setIfInBounds_toArray, List.set_cons_zero, List.set_cons_succ, i64_w, i32_w]
              rfl
             refine pure_ (i := 3) (N := some 58) (v := ?_) (a' := ?_) #[false, true, false, true, false, false, false, false] rfl rfl (any_of HT_.out (by kernel_rfl)) (fun _ _ _ h => h) (Or.inl ⟨by rfl, ?_⟩) ?_ ?_
             rotate_left
             ·intro w'
              go_simp
              with_reducible rfl
             rotate_left
             ·simp only [Act.put, List.setIfInBounds_toArray, List.set_cons_zero, List.set_cons_succ, i64_w, i32_w]
              rfl
             refine take_ (i := 0) (N := some 55) (v := ?_) (a' := ?_) #[true, true, false, true, false, false, false, false] rfl rfl (take_ofW HT_.out HW_.out (by kernel_rfl)) (fun _ _ _ h => h) (Or.inl ⟨by rfl, ?_⟩) hHeld ?_ ?_
             rotate_left
             ·rintro w' ⟨s0, s1, s2, s3, s4, s5, s6, s7, s8⟩
              go_simp
              with_reducible rfl
             rotate_left
             ·simp only [Act.put, List.setIfInBounds_toArray, List.set_cons_zero, List.set_cons_succ, i64_w, i32_w]
              rfl
             refine take_ (i := 2) (N := some 57) (v := ?_) (a' := ?_) #[true, true, true, true, false, false, false, false] rfl rfl (take_ofW HT_.out HW_.out (by kernel_rfl)) (fun _ _ _ h => h) (Or.inl ⟨by rfl, ?_⟩) hHeld ?_ ?_
             rotate_left
             ·rintro w' ⟨s0, s1, s2, s3, s4, s5, s6, s7, s8⟩
              go_simp
              with_reducible rfl
             rotate_left
             ·simp only [Act.put, List.setIfInBounds_toArray, List.set_cons_zero, List.set_cons_succ, i64_w, i32_w]
              rfl
             refine pure_ (i := 4) (N := some 59) (v := ?_) (a' := ?_) #[true, true, true, true, true, false, false, false] rfl rfl (any_of HT_.out (by kernel_rfl)) (fun _ _ _ h => h) (Or.inl ⟨by rfl, ?_⟩) ?_ ?_
             rotate_left
             ·intro w'
              go_simp
              with_reducible rfl
             rotate_left
             ·simp only [Act.put, List.setIfInBounds_toArray, List.set_cons_zero, List.set_cons_succ, i64_w, i32_w]
              rfl
             refine take_ (i := 5) (N := some 60) (v := ?_) (a' := ?_) #[true, true, true, true, true, true, false, false] rfl rfl (take_ofW HT_.out HW_.out (by kernel_rfl)) (fun _ _ _ h => h) (Or.inl ⟨by rfl, ?_⟩) hHeld ?_ ?_
             rotate_left
             ·rintro w' ⟨s0, s1, s2, s3, s4, s5, s6, s7, s8⟩
              go_simp
              with_reducible rfl
             rotate_left
             ·simp only [Act.put, List.setIfInBounds_toArray, List.set_cons_zero, List.set_cons_succ, i64_w, i32_w]
              rfl
             refine one_ (i := 6) (N := some 61) #[true, true, true, true, true, true, true, false] rfl rfl (one_of HT_.out (by kernel_rfl)) (by decide) (fun K hK => ?_)
             refine goes_ Try.func58 (by kernel_rfl) rfl #[.agg #[.slice A0_0 l0_0.length c0_0, .slice (some ad198) l0_1.length c0_1], .agg #[.string ((rd_T135 l0_1 x52_3).f0), .int .i64 ((rd_T135 l0_1 x52_3).f1), .slice A198_2 ((rd_T135 l0_1 x52_3).f2).length c198_2, .int .u32 ((rd_T135 l0_1 x52_3).f3), .int .i64 ((rd_T135 l0_1 x52_3).f4), .int .i64 ((rd_T135 l0_1 x52_3).f5), .slice A198_6 ((rd_T135 l0_1 x52_3).f6).length c198_6]] (by rfl) rfl rfl (by (try simp only [List.map_toArray, List.map_cons, List.map_nil]); first | done | rfl | (simp only [List.length_drop, List.length_take]; rfl)) ?_
             with_reducible refine (rowlockref12_index.calls k3 _ _ l0_0 _ _ l0_1 ((rd_T135 l0_1 x52_3).f0) ((rd_T135 l0_1 x52_3).f1) _ _ ((rd_T135 l0_1 x52_3).f2) ((rd_T135 l0_1 x52_3).f3) ((rd_T135 l0_1 x52_3).f4) ((rd_T135 l0_1 x52_3).f5) _ _ ((rd_T135 l0_1 x52_3).f6) true _ ?side1 ?side2 ?side3 ?side4 ?side5 ?side6 ?side7 ?side8 A30.out).mono ?_
             (case side1 => repeat (first | exact (Kd.C_below HR0_0.out HB.out) | (with_reducible refine Kd.C_alloc ?_ _) | (with_reducible refine Kd.C_drewN ?_ _) | (with_reducible refine Kd.C_drew ?_)))
             (case side2 => exact HC0_0.out)
             (case side3 => repeat (first | exact (Kd.C_below HR0_1.out HB.out) | (with_reducible refine Kd.C_alloc ?_ _) | (with_reducible refine Kd.C_drewN ?_ _) | (with_reducible refine Kd.C_drew ?_)))
             (case side4 => exact HC0_1.out)
             (case side5 => repeat (first | exact (Kd.C_below HR198_2.out HB.out) | (with_reducible refine Kd.C_alloc ?_ _) | (with_reducible refine Kd.C_drewN ?_ _) | (with_reducible refine Kd.C_drew ?_)))
             (case side6 => exact HC198_2.out)
             (case side7 => repeat (first | exact (Kd.C_below HR198_6.out HB.out) | (with_reducible refine Kd.C_alloc ?_ _) | (with_reducible refine Kd.C_drewN ?_ _) | (with_reducible refine Kd.C_drew ?_)))
             (case side8 => exact HC198_6.out)
             rintro e w33 ⟨rfl, hb⟩
             refine ⟨_, rfl, ?_⟩
             have n0_ := Aside0.mk (blk_below (g := gb193) (o := .cells #[.slice A0_0 l0_0.length c0_0, .slice (some ad198) l0_1.length c0_1] 80 (0, 0)) (by (with_reducible repeat (first | refine blk_drewN ?_ _ | refine blk_drew ?_ | refine blk_alloc ?_ _)); exact BK193.out) hb)
             have n1_ := Aside0.mk (below_step (by repeat (first | (with_reducible first | exact HB.out | apply below_alloc | apply pw_below_drewN | apply below_drew1 | refine below_set ?_ GE193.out) | exact HB.out)) hb)
             clear BK193
             clear HB
             have BK193 := n0_
             have HB := n1_
             clear n0_ n1_
             (try clear hb)
             (try clear hb2)
             (try clear hk)
             (try clear hi)
             refine hK.out _ _ ⟨(blk_cell BK193.out 0).trans rfl, (blk_cell BK193.out 1).trans rfl, ((HB.out.cell (World.block_lt_of_cell? w _ hw198_0)).trans hw198_0), ((HB.out.cell (World.block_lt_of_cell? w _ hw198_1)).trans hw198_1), ((HB.out.cell (World.block_lt_of_cell? w _ hw198_2)).trans hw198_2), ((HB.out.cell (World.block_lt_of_cell? w _ hw198_3)).trans hw198_3), ((HB.out.cell (World.block_lt_of_cell? w _ hw198_4)).trans hw198_4), ((HB.out.cell (World.block_lt_of_cell? w _ hw198_5)).trans hw198_5), ((HB.out.cell (World.block_lt_of_cell? w _ hw198_6)).trans hw198_6)⟩ (fun hHeld => ?_)
             clear hK K
             refine norm_ (a' := ?_) ?_ ?_
             rotate_left
             ·show Act.put _ (some 61) _ = _
              simp only [Act.put, List.setIfInBounds_toArray, List.set_cons_zero, List.set_cons_succ, i64_w, i32_w]
              rfl
             refine pure_ (i := 7) (N := some 62) (v := ?_) (a' := ?_) #[true, true, true, true, true, true, true, true] rfl rfl (any_of HT_.out (by kernel_rfl)) (fun _ _ _ h => h) (Or.inl ⟨by rfl, ?_⟩) ?_ ?_
             rotate_left
             ·intro w'
              go_simp
              with_reducible rfl
             rotate_left
             ·simp only [Act.put, List.setIfInBounds_toArray, List.set_cons_zero, List.set_cons_succ, i64_w, i32_w]
              rfl
             refine done_ (done_of HT_.out (by kernel_rfl)) ?_
             try go_wp2
             go_loopg [6] k3 (fun kq v6 w' => ∃ (x6_4 : Int), v6 = .int .i64 x6_4 ∧ Aside0 (rowlockref12_May.l3 kq x52_3 x6_4 (l0_1.length : Int) x52_3 l0_0 l0_1 = some r) ∧ Aside0 (kq ≤ k3) ∧ Aside0 (w'.heap[gb193]? = some (.cells #[(.slice A0_0 l0_0.length c0_0), (.slice (some ad198) l0_1.length c0_1)] 80 (0, 0))) ∧ Aside0 (Below w.heap.size w w'))
             case atStart => exact ⟨(0), (by first | rfl | (simp; done) | (simp [*]; done)), H', ⟨Nat.le_refl _⟩, ⟨by (with_reducible repeat (first | refine blk_drewN ?_ _ | refine blk_drew ?_ | refine blk_alloc ?_ _)); exact BK193.out⟩, ⟨by repeat (first | (with_reducible first | exact HB.out | apply below_alloc | apply pw_below_drewN | apply below_drew1 | refine below_set ?_ GE193.out) | exact HB.out)⟩⟩
             case round =>
              clear H'
              try clear c1
              try clear p1
              try clear q1
              try clear hx1
              try clear c2
              try clear p2
              try clear c3
              try clear c4
              try clear c4b0
              try clear c4b1
              try clear c5
              try clear p6
              try clear c7
              try clear c9
              try clear c9b0
              try clear c10
              try clear c10b0
              try clear c11
              try clear c11b0
              try clear c13
              try clear c16
              try clear c16b0
              try clear c17
              try clear c17b0
              try clear c18
              try clear c18b0
              try clear c19
              try clear c19b0
              try clear p19
              try clear q19
              try clear hx19
              try clear c20
              try clear c20b0
              try clear c21
              try clear c21b0
              try clear c21b1
              try clear c27
              try clear c27b0
              try clear c28
              try clear c28b0
              try clear c29
              try clear c29b0
              try clear c31
              try clear hcz14_0
              try clear hcz14_1
              try clear hcz24_0
              try clear hcz24_1
              try clear hcz26_0
              try clear hcz26_1
              try clear hcz5_0
              try clear hcz5_1
              try clear hcz6_0
              try clear hcz6_1
              try clear hcz8_0
              try clear hcz8_1
              try clear hfz14_0
              try clear hfz14_1
              try clear hfz24_0
              try clear hfz24_1
              try clear hfz26_0
              try clear hfz26_1
              try clear hfz5_0
              try clear hfz5_1
              try clear hfz6_0
              try clear hfz6_1
              try clear hfz8_0
              try clear hfz8_1
              try clear hx194_0
              try clear hx194_1
              try clear hx194_2
              try clear hx194_3
              try clear hx194_4
              try clear hx196_0
              try clear hx196_1
              try clear hx196_2
              try clear hx196_3
              try clear hx196_4
              try clear hx197_0
              try clear hx197_1
              try clear hx197_2
              try clear hx197_3
              try clear hx197_4
              try clear hx198_0
              try clear hx198_1
              try clear hx198_2
              try clear hx198_3
              try clear hx198_4
              try clear hx198_5
              try clear hx198_6
              try clear p1
              try clear p19
              try clear p194
              try clear p196
              try clear p197
              try clear p198
              try clear p2
              try clear p6
              try clear q1
              try clear q19
              try clear q194
              try clear q196
              try clear q197
              try clear q198
              obtain ⟨x6_4, rfl, HA, HK4, BK193, HB⟩ := hrel
              cases gk with
              | zero => exact absurd HA.out (by simp [rowlockref12_May.l3])
              | succ k4 =>
               have H := HA.out
               clear HA
               simp only [rowlockref12_May.l3] at H
               by_cases c34 : x6_4 < x52_3
               ·rw [if_pos c34] at H
                have c34b0 : decide (x6_4 < x52_3) = true := decide_eq_true c34
                clear c34
                by_cases c35 : 0 ≤ x6_4
                ·rw [if_pos c35] at H
                 have c35b0 : decide (0 ≤ x6_4) = true := decide_eq_true c35
                 clear c35
                 by_cases c36 : x6_4 < (l0_1.length : Int)
                 ·rw [if_pos c36] at H
                  have c36b0 : decide (x6_4 < (l0_1.length : Int)) = true := decide_eq_true c36
                  clear c36
                  by_cases c37 : 0 ≤ x52_3
                  ·rw [if_pos c37] at H
                   have c37b0 : decide (0 ≤ x52_3) = true := decide_eq_true c37
                   clear c37
                   by_cases c38 : x52_3 < (l0_1.length : Int)
                   ·rw [if_pos c38] at H
                    have c38b0 : decide (x52_3 < (l0_1.length : Int)) = true := decide_eq_true c38
                    clear c38
                    by_cases c39 : ((rd_T135 l0_1 x6_4).f0).toList = ((rd_T135 l0_1 x52_3).f0).toList
                    ·rw [if_pos c39] at H
                     have c39b0 : (((rd_T135 l0_1 x6_4).f0).toList == ((rd_T135 l0_1 x52_3).f0).toList) = true := beq_iff_eq.mpr c39
                     have c39b1 : (((rd_T135 l0_1 x6_4).f0).toList != ((rd_T135 l0_1 x52_3).f0).toList) = false := bne_eq_false_iff_eq.mpr c39
                     clear c39
                     obtain rfl := Option.some.inj H
                     try go_wp2
                     have n0_ := Aside0.mk (blk_drew BK193.out)
                     have n1_ := Aside0.mk (below_drew1 HB.out)
                     clear BK193
                     clear HB
                     have BK193 := n0_
                     have HB := n1_
                     clear n0_ n1_
                     have p200 : 0 ≤ (x6_4 : Int) := of_decide_eq_true (by first | (with_reducible assumption) | assumption)
                     have q200 : x6_4 < (l0_1.length : Int) := of_decide_eq_true (by first | (with_reducible assumption) | assumption)
                     obtain ⟨ad200, A200_2, c200_2, A200_6, c200_6, e200, hx200_0, hx200_1, hx200_2, hx200_3, hx200_4, hx200_5, hx200_6, hl200_2, hi200_2, hl200_6, hi200_6⟩ := at_T135 HR0_1.out x6_4 p200 q200
                     have hw200_6 := hx200_6
                     have hw200_5 := hx200_5
                     have hw200_4 := hx200_4
                     have hw200_3 := hx200_3
                     have hw200_2 := hx200_2
                     have hw200_1 := hx200_1
                     have hw200_0 := hx200_0
                     obtain rfl : ad198 = ad200 := (by injection e200)
                     replace hx200_0 := (HB.out.cell (World.block_lt_of_cell? w _ hx200_0)).trans hx200_0
                     replace hx200_1 := (HB.out.cell (World.block_lt_of_cell? w _ hx200_1)).trans hx200_1
                     replace hx200_2 := (HB.out.cell (World.block_lt_of_cell? w _ hx200_2)).trans hx200_2
                     replace hx200_3 := (HB.out.cell (World.block_lt_of_cell? w _ hx200_3)).trans hx200_3
                     replace hx200_4 := (HB.out.cell (World.block_lt_of_cell? w _ hx200_4)).trans hx200_4
                     replace hx200_5 := (HB.out.cell (World.block_lt_of_cell? w _ hx200_5)).trans hx200_5
                     replace hx200_6 := (HB.out.cell (World.block_lt_of_cell? w _ hx200_6)).trans hx200_6
                     have HR200_2 := Aside0.mk hi200_2
                     have HC200_2 := Aside0.mk hl200_2
                     clear hi200_2 hl200_2
                     have HR200_6 := Aside0.mk hi200_6
                     have HC200_6 := Aside0.mk hl200_6
                     clear hi200_6 hl200_6
                     replace p200 := eq_true p200
                     have p200D := p200; try simp only [List.length_drop, List.length_take] at p200D
                     replace q200 := eq_true q200
                     have q200D := q200; try simp only [List.length_drop, List.length_take] at q200D
                     have p201 : 0 ≤ (x52_3 : Int) := of_decide_eq_true (by first | (with_reducible assumption) | assumption)
                     have q201 : x52_3 < (l0_1.length : Int) := of_decide_eq_true (by first | (with_reducible assumption) | assumption)
                     obtain ⟨ad201, A201_2, c201_2, A201_6, c201_6, e201, hx201_0, hx201_1, hx201_2, hx201_3, hx201_4, hx201_5, hx201_6, hl201_2, hi201_2, hl201_6, hi201_6⟩ := at_T135 HR0_1.out x52_3 p201 q201
                     have hw201_6 := hx201_6
                     have hw201_5 := hx201_5
                     have hw201_4 := hx201_4
                     have hw201_3 := hx201_3
                     have hw201_2 := hx201_2
                     have hw201_1 := hx201_1
                     have hw201_0 := hx201_0
                     obtain rfl : ad198 = ad201 := (by injection e201)
                     replace hx201_0 := (HB.out.cell (World.block_lt_of_cell? w _ hx201_0)).trans hx201_0
                     replace hx201_1 := (HB.out.cell (World.block_lt_of_cell? w _ hx201_1)).trans hx201_1
                     replace hx201_2 := (HB.out.cell (World.block_lt_of_cell? w _ hx201_2)).trans hx201_2
                     replace hx201_3 := (HB.out.cell (World.block_lt_of_cell? w _ hx201_3)).trans hx201_3
                     replace hx201_4 := (HB.out.cell (World.block_lt_of_cell? w _ hx201_4)).trans hx201_4
                     replace hx201_5 := (HB.out.cell (World.block_lt_of_cell? w _ hx201_5)).trans hx201_5
                     replace hx201_6 := (HB.out.cell (World.block_lt_of_cell? w _ hx201_6)).trans hx201_6
                     have HR201_2 := Aside0.mk hi201_2
                     have HC201_2 := Aside0.mk hl201_2
                     clear hi201_2 hl201_2
                     have HR201_6 := Aside0.mk hi201_6
                     have HC201_6 := Aside0.mk hl201_6
                     clear hi201_6 hl201_6
                     replace p201 := eq_true p201
                     have p201D := p201; try simp only [List.length_drop, List.length_take] at p201D
                     replace q201 := eq_true q201
                     have q201D := q201; try simp only [List.length_drop, List.length_take] at q201D
                     refine start_ (n := 13) (S := fun w' => w'.cell? ⟨gb193, 0, none⟩ = some (.slice A0_0 l0_0.length c0_0) ∧ w'.cell? ⟨gb193, 1, none⟩ = some (.slice (some ad198) l0_1.length c0_1) ∧ w'.cell? (ad198.add ((x6_4).toNat * 7)) = some (.string ((rd_T135 l0_1 x6_4).f0)) ∧ w'.cell? ⟨(ad198.add ((x6_4).toNat * 7)).block, (ad198.add ((x6_4).toNat * 7)).off + 1, none⟩ = some (.int .i64 ((rd_T135 l0_1 x6_4).f1)) ∧ w'.cell? ⟨(ad198.add ((x6_4).toNat * 7)).block, (ad198.add ((x6_4).toNat * 7)).off + 2, none⟩ = some (.slice A200_2 ((rd_T135 l0_1 x6_4).f2).length c200_2) ∧ w'.cell? ⟨(ad198.add ((x6_4).toNat * 7)).block, (ad198.add ((x6_4).toNat * 7)).off + 3, none⟩ = some (.int .u32 ((rd_T135 l0_1 x6_4).f3)) ∧ w'.cell? ⟨(ad198.add ((x6_4).toNat * 7)).block, (ad198.add ((x6_4).toNat * 7)).off + 4, none⟩ = some (.int .i64 ((rd_T135 l0_1 x6_4).f4)) ∧ w'.cell? ⟨(ad198.add ((x6_4).toNat * 7)).block, (ad198.add ((x6_4).toNat * 7)).off + 5, none⟩ = some (.int .i64 ((rd_T135 l0_1 x6_4).f5)) ∧ w'.cell? ⟨(ad198.add ((x6_4).toNat * 7)).block, (ad198.add ((x6_4).toNat * 7)).off + 6, none⟩ = some (.slice A200_6 ((rd_T135 l0_1 x6_4).f6).length c200_6) ∧ w'.cell? (ad198.add ((x52_3).toNat * 7)) = some (.string ((rd_T135 l0_1 x52_3).f0)) ∧ w'.cell? ⟨(ad198.add ((x52_3).toNat * 7)).block, (ad198.add ((x52_3).toNat * 7)).off + 1, none⟩ = some (.int .i64 ((rd_T135 l0_1 x52_3).f1)) ∧ w'.cell? ⟨(ad198.add ((x52_3).toNat * 7)).block, (ad198.add ((x52_3).toNat * 7)).off + 2, none⟩ = some (.slice A201_2 ((rd_T135 l0_1 x52_3).f2).length c201_2) ∧ w'.cell? ⟨(ad198.add ((x52_3).toNat * 7)).block, (ad198.add ((x52_3).toNat * 7)).off + 3, none⟩ = some (.int .u32 ((rd_T135 l0_1 x52_3).f3)) ∧ w'.cell? ⟨(ad198.add ((x52_3).toNat * 7)).block, (ad198.add ((x52_3).toNat * 7)).off + 4, none⟩ = some (.int .i64 ((rd_T135 l0_1 x52_3).f4)) ∧ w'.cell? ⟨(ad198.add ((x52_3).toNat * 7)).block, (ad198.add ((x52_3).toNat * 7)).off + 5, none⟩ = some (.int .i64 ((rd_T135 l0_1 x52_3).f5)) ∧ w'.cell? ⟨(ad198.add ((x52_3).toNat * 7)).block, (ad198.add ((x52_3).toNat * 7)).off + 6, none⟩ = some (.slice A201_6 ((rd_T135 l0_1 x52_3).f6).length c201_6)) (ds := []) #[false, false, false, false, false, false, false, false, false, false, false, false, false] (by kernel_rfl) rfl rfl ⟨(blk_cell BK193.out 0).trans rfl, (blk_cell BK193.out 1).trans rfl, ((HB.out.cell (World.block_lt_of_cell? w _ hw200_0)).trans hw200_0), ((HB.out.cell (World.block_lt_of_cell? w _ hw200_1)).trans hw200_1), ((HB.out.cell (World.block_lt_of_cell? w _ hw200_2)).trans hw200_2), ((HB.out.cell (World.block_lt_of_cell? w _ hw200_3)).trans hw200_3), ((HB.out.cell (World.block_lt_of_cell? w _ hw200_4)).trans hw200_4), ((HB.out.cell (World.block_lt_of_cell? w _ hw200_5)).trans hw200_5), ((HB.out.cell (World.block_lt_of_cell? w _ hw200_6)).trans hw200_6), ((HB.out.cell (World.block_lt_of_cell? w _ hw201_0)).trans hw201_0), ((HB.out.cell (World.block_lt_of_cell? w _ hw201_1)).trans hw201_1), ((HB.out.cell (World.block_lt_of_cell? w _ hw201_2)).trans hw201_2), ((HB.out.cell (World.block_lt_of_cell? w _ hw201_3)).trans hw201_3), ((HB.out.cell (World.block_lt_of_cell? w _ hw201_4)).trans hw201_4), ((HB.out.cell (World.block_lt_of_cell? w _ hw201_5)).trans hw201_5), ((HB.out.cell (World.block_lt_of_cell? w _ hw201_6)).trans hw201_6)⟩ (fun hHeld => ?_); refine with_tabW rowlockref12_May.tab22 rowlockref12_May.bits22 (fun HT_ HW_ => ?_)
                     generalize wr.drew = w40 at BK193 HB HR200_2 HR200_6 HR201_2 HR201_6 hx200_0 hx200_1 hx200_2 hx200_3 hx200_4 hx200_5 hx200_6 hx201_0 hx201_1 hx201_2 hx201_3 hx201_4 hx201_5 hx201_6 hHeld ⊢
                     refine pure_ (i := 0) (N := some 68) (v := ?_) (a' := ?_) #[true, false, false, false, false, false, false, false, false, false, false, false, false] rfl rfl (any_of HT_.out (by kernel_rfl)) (fun _ _ _ h => h) (Or.inl ⟨by rfl, ?_⟩) ?_ ?_
                     rotate_left
                     ·intro w'
                      go_simp
                      with_reducible rfl
                     rotate_left
                     ·simp only [Act.put, List.setIfInBounds_toArray, List.set_cons_zero, List.set_cons_succ, i64_w, i32_w]
                      rfl
                     refine pure_ (i := 2) (N := some 70) (v := ?_) (a' := ?_) #[true, false, true, false, false, false, false, false, false, false, false, false, false] rfl rfl (any_of HT_.out (by kernel_rfl)) (fun _ _ _ h => h) (Or.inl ⟨by rfl, ?_⟩) ?_ ?_
                     rotate_left
                     ·intro w'
                      go_simp
                      with_reducible rfl
                     rotate_left
                     ·simp only [Act.put, List.setIfInBounds_toArray, List.set_cons_zero, List.set_cons_succ, i64_w, i32_w]
                      rfl
                     refine pure_ (i := 6) (N := some 74) (v := ?_) (a' := ?_) #[true, false, true, false, false, false, true, false, false, false, false, false, false] rfl rfl (any_of HT_.out (by kernel_rfl)) (fun _ _ _ h => h) (Or.inl ⟨by rfl, ?_⟩) ?_ ?_
                     rotate_left
                     ·intro w'
                      go_simp
                      with_reducible rfl
                     rotate_left
                     ·simp only [Act.put, List.setIfInBounds_toArray, List.set_cons_zero, List.set_cons_succ, i64_w, i32_w]
                      rfl
                     refine pure_ (i := 8) (N := some 76) (v := ?_) (a' := ?_) #[true, false, true, false, false, false, true, false, true, false, false, false, false] rfl rfl (any_of HT_.out (by kernel_rfl)) (fun _ _ _ h => h) (Or.inl ⟨by rfl, ?_⟩) ?_ ?_
                     rotate_left
                     ·intro w'
                      go_simp
                      with_reducible rfl
                     rotate_left
                     ·simp only [Act.put, List.setIfInBounds_toArray, List.set_cons_zero, List.set_cons_succ, i64_w, i32_w]
                      rfl
                     refine take_ (i := 1) (N := some 69) (v := ?_) (a' := ?_) #[true, true, true, false, false, false, true, false, true, false, false, false, false] rfl rfl (take_ofW HT_.out HW_.out (by kernel_rfl)) (fun _ _ _ h => h) (Or.inl ⟨by rfl, ?_⟩) hHeld ?_ ?_
                     rotate_left
                     ·rintro w' ⟨s0, s1, s2, s3, s4, s5, s6, s7, s8, s9, s10, s11, s12, s13, s14, s15⟩
                      go_simp
                      with_reducible rfl
                     rotate_left
                     ·simp only [Act.put, List.setIfInBounds_toArray, List.set_cons_zero, List.set_cons_succ, i64_w, i32_w]
                      rfl
                     refine pure_ (i := 3) (N := some 71) (v := ?_) (a' := ?_) #[true, true, true, true, false, false, true, false, true, false, false, false, false] rfl rfl (any_of HT_.out (by kernel_rfl)) (fun _ _ _ h => h) (Or.inl ⟨by rfl, ?_⟩) ?_ ?_
                     rotate_left
                     ·intro w'
                      go_simp
                      with_reducible rfl
                     rotate_left
                     ·simp only [Act.put, List.setIfInBounds_toArray, List.set_cons_zero, List.set_cons_succ, i64_w, i32_w]
                      rfl
                     refine pure_ (i := 4) (N := some 72) (v := ?_) (a' := ?_) #[true, true, true, true, true, false, true, false, true, false, false, false, false] rfl rfl (any_of HT_.out (by kernel_rfl)) (fun _ _ _ h => h) (Or.inl ⟨by rfl, ?_⟩) ?_ ?_
                     rotate_left
                     ·intro w'
                      go_simp
                      with_reducible rfl
                     rotate_left
                     ·simp only [Act.put, List.setIfInBounds_toArray, List.set_cons_zero, List.set_cons_succ, i64_w, i32_w]
                      rfl
                     refine take_ (i := 5) (N := some 73) (v := ?_) (a' := ?_) #[true, true, true, true, true, true, true, false, true, false, false, false, false] rfl rfl (take_ofW HT_.out HW_.out (by kernel_rfl)) (fun _ _ _ h => h) (Or.inl ⟨by rfl, ?_⟩) hHeld ?_ ?_
                     rotate_left
                     ·rintro w' ⟨s0, s1, s2, s3, s4, s5, s6, s7, s8, s9, s10, s11, s12, s13, s14, s15⟩
                      go_simp
                      with_reducible rfl
                     rotate_left
                     ·simp only [Act.put, List.setIfInBounds_toArray, List.set_cons_zero, List.set_cons_succ, i64_w, i32_w]
                      rfl
                     refine take_ (i := 7) (N := some 75) (v := ?_) (a' := ?_) #[true, true, true, true, true, true, true, true, true, false, false, false, false] rfl rfl (take_ofW HT_.out HW_.out (by kernel_rfl)) (fun _ _ _ h => h) (Or.inl ⟨by rfl, ?_⟩) hHeld ?_ ?_
                     rotate_left
                     ·rintro w' ⟨s0, s1, s2, s3, s4, s5, s6, s7, s8, s9, s10, s11, s12, s13, s14, s15⟩
                      go_simp
                      with_reducible rfl
                     rotate_left
                     ·simp only [Act.put, List.setIfInBounds_toArray, List.set_cons_zero, List.set_cons_succ, i64_w, i32_w]
                      rfl
                     refine pure_ (i := 9) (N := some 77) (v := ?_) (a' := ?_) #[true, true, true, true, true, true, true, true, true, true, false, false, false] rfl rfl (any_of HT_.out (by kernel_rfl)) (fun _ _ _ h => h) (Or.inl ⟨by rfl, ?_⟩) ?_ ?_
                     rotate_left
                     ·intro w'
                      go_simp
                      with_reducible rfl
                     rotate_left
                     ·simp only [Act.put, List.setIfInBounds_toArray, List.set_cons_zero, List.set_cons_succ, i64_w, i32_w]
                      rfl
                     refine pure_ (i := 10) (N := some 78) (v := ?_) (a' := ?_) #[true, true, true, true, true, true, true, true, true, true, true, false, false] rfl rfl (any_of HT_.out (by kernel_rfl)) (fun _ _ _ h => h) (Or.inl ⟨by rfl, ?_⟩) ?_ ?_
                     rotate_left
                     ·intro w'
                      go_simp
                      with_reducible rfl
                     rotate_left
                     ·simp only [Act.put, List.setIfInBounds_toArray, List.set_cons_zero, List.set_cons_succ, i64_w, i32_w]
                      rfl
                     refine take_ (i := 11) (N := some 79) (v := ?_) (a' := ?_) #[true, true, true, true, true, true, true, true, true, true, true, true, false] rfl rfl (take_ofW HT_.out HW_.out (by kernel_rfl)) (fun _ _ _ h => h) (Or.inl ⟨by rfl, ?_⟩) hHeld ?_ ?_
                     rotate_left
                     ·rintro w' ⟨s0, s1, s2, s3, s4, s5, s6, s7, s8, s9, s10, s11, s12, s13, s14, s15⟩
                      go_simp
                      with_reducible rfl
                     rotate_left
                     ·simp only [Act.put, List.setIfInBounds_toArray, List.set_cons_zero, List.set_cons_succ, i64_w, i32_w]
                      rfl
                     refine pure_ (i := 12) (N := some 80) (v := ?_) (a' := ?_) #[true, true, true, true, true, true, true, true, true, true, true, true, true] rfl rfl (any_of HT_.out (by kernel_rfl)) (fun _ _ _ h => h) (Or.inl ⟨by rfl, ?_⟩) ?_ ?_
                     rotate_left
                     ·intro w'
                      go_simp
                      with_reducible rfl
                     rotate_left
                     ·simp only [Act.put, List.setIfInBounds_toArray, List.set_cons_zero, List.set_cons_succ, i64_w, i32_w]
                      rfl
                     refine done_ (done_of HT_.out (by kernel_rfl)) ?_
                     try go_wp2
                     go_ret
                     exact ⟨by first | rfl | (simp [errW_none, errW_some] <;> rfl) | (simp [*, errW_none, errW_some] <;> rfl), by repeat (first | (with_reducible first | exact HB.out | apply below_alloc | apply pw_below_drewN | apply below_drew1 | refine below_set ?_ GE193.out) | exact HB.out)⟩
                    ·rw [if_neg c39] at H
                     have c39b0 : (((rd_T135 l0_1 x6_4).f0).toList == ((rd_T135 l0_1 x52_3).f0).toList) = false := beq_eq_false_iff_ne.mpr c39
                     have c39b1 : (((rd_T135 l0_1 x6_4).f0).toList != ((rd_T135 l0_1 x52_3).f0).toList) = true := bne_iff_ne.mpr c39
                     have H' := Aside0.mk H
                     clear H
                     try go_wp2
                     have n0_ := Aside0.mk (blk_drew BK193.out)
                     have n1_ := Aside0.mk (below_drew1 HB.out)
                     clear BK193
                     clear HB
                     have BK193 := n0_
                     have HB := n1_
                     clear n0_ n1_
                     have p200 : 0 ≤ (x6_4 : Int) := of_decide_eq_true (by first | (with_reducible assumption) | assumption)
                     have q200 : x6_4 < (l0_1.length : Int) := of_decide_eq_true (by first | (with_reducible assumption) | assumption)
                     obtain ⟨ad200, A200_2, c200_2, A200_6, c200_6, e200, hx200_0, hx200_1, hx200_2, hx200_3, hx200_4, hx200_5, hx200_6, hl200_2, hi200_2, hl200_6, hi200_6⟩ := at_T135 HR0_1.out x6_4 p200 q200
                     have hw200_6 := hx200_6
                     have hw200_5 := hx200_5
                     have hw200_4 := hx200_4
                     have hw200_3 := hx200_3
                     have hw200_2 := hx200_2
                     have hw200_1 := hx200_1
                     have hw200_0 := hx200_0
                     obtain rfl : ad198 = ad200 := (by injection e200)
                     replace hx200_0 := (HB.out.cell (World.block_lt_of_cell? w _ hx200_0)).trans hx200_0
                     replace hx200_1 := (HB.out.cell (World.block_lt_of_cell? w _ hx200_1)).trans hx200_1
                     replace hx200_2 := (HB.out.cell (World.block_lt_of_cell? w _ hx200_2)).trans hx200_2
                     replace hx200_3 := (HB.out.cell (World.block_lt_of_cell? w _ hx200_3)).trans hx200_3
                     replace hx200_4 := (HB.out.cell (World.block_lt_of_cell? w _ hx200_4)).trans hx200_4
                     replace hx200_5 := (HB.out.cell (World.block_lt_of_cell? w _ hx200_5)).trans hx200_5
                     replace hx200_6 := (HB.out.cell (World.block_lt_of_cell? w _ hx200_6)).trans hx200_6
                     have HR200_2 := Aside0.mk hi200_2
                     have HC200_2 := Aside0.mk hl200_2
                     clear hi200_2 hl200_2
                     have HR200_6 := Aside0.mk hi200_6
                     have HC200_6 := Aside0.mk hl200_6
                     clear hi200_6 hl200_6
                     replace p200 := eq_true p200
                     have p200D := p200; try simp only [List.length_drop, List.length_take] at p200D
                     replace q200 := eq_true q200
                     have q200D := q200; try simp only [List.length_drop, List.length_take] at q200D
                     have p201 : 0 ≤ (x52_3 : Int) := of_decide_eq_true (by first | (with_reducible assumption) | assumption)
                     have q201 : x52_3 < (l0_1.length : Int) := of_decide_eq_true (by first | (with_reducible assumption) | assumption)
                     obtain ⟨ad201, A201_2, c201_2, A201_6, c201_6, e201, hx201_0, hx201_1, hx201_2, hx201_3, hx201_4, hx201_5, hx201_6, hl201_2, hi201_2, hl201_6, hi201_6⟩ := at_T135 HR0_1.out x52_3 p201 q201
                     have hw201_6 := hx201_6
                     have hw201_5 := hx201_5
                     have hw201_4 := hx201_4
                     have hw201_3 := hx201_3
                     have hw201_2 := hx201_2
                     have hw201_1 := hx201_1
                     have hw201_0 := hx201_0
                     obtain rfl : ad198 = ad201 := (by injection e201)
                     replace hx201_0 := (HB.out.cell (World.block_lt_of_cell? w _ hx201_0)).trans hx201_0
                     replace hx201_1 := (HB.out.cell (World.block_lt_of_cell? w _ hx201_1)).trans hx201_1
                     replace hx201_2 := (HB.out.cell (World.block_lt_of_cell? w _ hx201_2)).trans hx201_2
                     replace hx201_3 := (HB.out.cell (World.block_lt_of_cell? w _ hx201_3)).trans hx201_3
                     replace hx201_4 := (HB.out.cell (World.block_lt_of_cell? w _ hx201_4)).trans hx201_4
                     replace hx201_5 := (HB.out.cell (World.block_lt_of_cell? w _ hx201_5)).trans hx201_5
                     replace hx201_6 := (HB.out.cell (World.block_lt_of_cell? w _ hx201_6)).trans hx201_6
                     have HR201_2 := Aside0.mk hi201_2
                     have HC201_2 := Aside0.mk hl201_2
                     clear hi201_2 hl201_2
                     have HR201_6 := Aside0.mk hi201_6
                     have HC201_6 := Aside0.mk hl201_6
                     clear hi201_6 hl201_6
                     replace p201 := eq_true p201
                     have p201D := p201; try simp only [List.length_drop, List.length_take] at p201D
                     replace q201 := eq_true q201
                     have q201D := q201; try simp only [List.length_drop, List.length_take] at q201D
                     refine start_ (n := 13) (S := fun w' => w'.cell? ⟨gb193, 0, none⟩ = some (.slice A0_0 l0_0.length c0_0) ∧ w'.cell? ⟨gb193, 1, none⟩ = some (.slice (some ad198) l0_1.length c0_1) ∧ w'.cell? (ad198.add ((x6_4).toNat * 7)) = some (.string ((rd_T135 l0_1 x6_4).f0)) ∧ w'.cell? ⟨(ad198.add ((x6_4).toNat * 7)).block, (ad198.add ((x6_4).toNat * 7)).off + 1, none⟩ = some (.int .i64 ((rd_T135 l0_1 x6_4).f1)) ∧ w'.cell? ⟨(ad198.add ((x6_4).toNat * 7)).block, (ad198.add ((x6_4).toNat * 7)).off + 2, none⟩ = some (.slice A200_2 ((rd_T135 l0_1 x6_4).f2).length c200_2) ∧ w'.cell? ⟨(ad198.add ((x6_4).toNat * 7)).block, (ad198.add ((x6_4).toNat * 7)).off + 3, none⟩ = some (.int .u32 ((rd_T135 l0_1 x6_4).f3)) ∧ w'.cell? ⟨(ad198.add ((x6_4).toNat * 7)).block, (ad198.add ((x6_4).toNat * 7)).off + 4, none⟩ = some (.int .i64 ((rd_T135 l0_1 x6_4).f4)) ∧ w'.cell? ⟨(ad198.add ((x6_4).toNat * 7)).block, (ad198.add ((x6_4).toNat * 7)).off + 5, none⟩ = some (.int .i64 ((rd_T135 l0_1 x6_4).f5)) ∧ w'.cell? ⟨(ad198.add ((x6_4).toNat * 7)).block, (ad198.add ((x6_4).toNat * 7)).off + 6, none⟩ = some (.slice A200_6 ((rd_T135 l0_1 x6_4).f6).length c200_6) ∧ w'.cell? (ad198.add ((x52_3).toNat * 7)) = some (.string ((rd_T135 l0_1 x52_3).f0)) ∧ w'.cell? ⟨(ad198.add ((x52_3).toNat * 7)).block, (ad198.add ((x52_3).toNat * 7)).off + 1, none⟩ = some (.int .i64 ((rd_T135 l0_1 x52_3).f1)) ∧ w'.cell? ⟨(ad198.add ((x52_3).toNat * 7)).block, (ad198.add ((x52_3).toNat * 7)).off + 2, none⟩ = some (.slice A201_2 ((rd_T135 l0_1 x52_3).f2).length c201_2) ∧ w'.cell? ⟨(ad198.add ((x52_3).toNat * 7)).block, (ad198.add ((x52_3).toNat * 7)).off + 3, none⟩ = some (.int .u32 ((rd_T135 l0_1 x52_3).f3)) ∧ w'.cell? ⟨(ad198.add ((x52_3).toNat * 7)).block, (ad198.add ((x52_3).toNat * 7)).off + 4, none⟩ = some (.int .i64 ((rd_T135 l0_1 x52_3).f4)) ∧ w'.cell? ⟨(ad198.add ((x52_3).toNat * 7)).block, (ad198.add ((x52_3).toNat * 7)).off + 5, none⟩ = some (.int .i64 ((rd_T135 l0_1 x52_3).f5)) ∧ w'.cell? ⟨(ad198.add ((x52_3).toNat * 7)).block, (ad198.add ((x52_3).toNat * 7)).off + 6, none⟩ = some (.slice A201_6 ((rd_T135 l0_1 x52_3).f6).length c201_6)) (ds := []) #[false, false, false, false, false, false, false, false, false, false, false, false, false] (by kernel_rfl) rfl rfl ⟨(blk_cell BK193.out 0).trans rfl, (blk_cell BK193.out 1).trans rfl, ((HB.out.cell (World.block_lt_of_cell? w _ hw200_0)).trans hw200_0), ((HB.out.cell (World.block_lt_of_cell? w _ hw200_1)).trans hw200_1), ((HB.out.cell (World.block_lt_of_cell? w _ hw200_2)).trans hw200_2), ((HB.out.cell (World.block_lt_of_cell? w _ hw200_3)).trans hw200_3), ((HB.out.cell (World.block_lt_of_cell? w _ hw200_4)).trans hw200_4), ((HB.out.cell (World.block_lt_of_cell? w _ hw200_5)).trans hw200_5), ((HB.out.cell (World.block_lt_of_cell? w _ hw200_6)).trans hw200_6), ((HB.out.cell (World.block_lt_of_cell? w _ hw201_0)).trans hw201_0), ((HB.out.cell (World.block_lt_of_cell? w _ hw201_1)).trans hw201_1), ((HB.out.cell (World.block_lt_of_cell? w _ hw201_2)).trans hw201_2), ((HB.out.cell (World.block_lt_of_cell? w _ hw201_3)).trans hw201_3), ((HB.out.cell (World.block_lt_of_cell? w _ hw201_4)).trans hw201_4), ((HB.out.cell (World.block_lt_of_cell? w _ hw201_5)).trans hw201_5), ((HB.out.cell (World.block_lt_of_cell? w _ hw201_6)).trans hw201_6)⟩ (fun hHeld => ?_); refine with_tabW rowlockref12_May.tab22 rowlockref12_May.bits22 (fun HT_ HW_ => ?_)
                     generalize wr.drew = w41 at BK193 HB HR200_2 HR200_6 HR201_2 HR201_6 hx200_0 hx200_1 hx200_2 hx200_3 hx200_4 hx200_5 hx200_6 hx201_0 hx201_1 hx201_2 hx201_3 hx201_4 hx201_5 hx201_6 hHeld ⊢
                     refine pure_ (i := 0) (N := some 68) (v := ?_) (a' := ?_) #[true, false, false, false, false, false, false, false, false, false, false, false, false] rfl rfl (any_of HT_.out (by kernel_rfl)) (fun _ _ _ h => h) (Or.inl ⟨by rfl, ?_⟩) ?_ ?_
                     rotate_left
                     ·intro w'
                      go_simp
                      with_reducible rfl
                     rotate_left
                     ·simp only [Act.put, List.setIfInBounds_toArray, List.set_cons_zero, List.set_cons_succ, i64_w, i32_w]
                      rfl
                     refine pure_ (i := 2) (N := some 70) (v := ?_) (a' := ?_) #[true, false, true, false, false, false, false, false, false, false, false, false, false] rfl rfl (any_of HT_.out (by kernel_rfl)) (fun _ _ _ h => h) (Or.inl ⟨by rfl, ?_⟩) ?_ ?_
                     rotate_left
                     ·intro w'
                      go_simp
                      with_reducible rfl
                     rotate_left
                     ·simp only [Act.put, List.setIfInBounds_toArray, List.set_cons_zero, List.set_cons_succ, i64_w, i32_w]
                      rfl
                     refine pure_ (i := 6) (N := some 74) (v := ?_) (a' := ?_) #[true, false, true, false, false, false, true, false, false, false, false, false, false] rfl rfl (any_of HT_.out (by kernel_rfl)) (fun _ _ _ h => h) (Or.inl ⟨by rfl, ?_⟩) ?_ ?_
                     rotate_left
                     ·intro w'
                      go_simp
                      with_reducible rfl
                     rotate_left
                     ·simp only [Act.put, List.setIfInBounds_toArray, List.set_cons_zero, List.set_cons_succ, i64_w, i32_w]
                      rfl
                     refine pure_ (i := 8) (N := some 76) (v := ?_) (a' := ?_) #[true, false, true, false, false, false, true, false, true, false, false, false, false] rfl rfl (any_of HT_.out (by kernel_rfl)) (fun _ _ _ h => h) (Or.inl ⟨by rfl, ?_⟩) ?_ ?_
                     rotate_left
                     ·intro w'
                      go_simp
                      with_reducible rfl
                     rotate_left
                     ·simp only [Act.put, List.setIfInBounds_toArray, List.set_cons_zero, List.set_cons_succ, i64_w, i32_w]
                      rfl
                     refine take_ (i := 1) (N := some 69) (v := ?_) (a' := ?_) #[true, true, true, false, false, false, true, false, true, false, false, false, false] rfl rfl (take_ofW HT_.out HW_.out (by kernel_rfl)) (fun _ _ _ h => h) (Or.inl ⟨by rfl, ?_⟩) hHeld ?_ ?_
                     rotate_left
                     ·rintro w' ⟨s0, s1, s2, s3, s4, s5, s6, s7, s8, s9, s10, s11, s12, s13, s14, s15⟩
                      go_simp
                      with_reducible rfl
                     rotate_left
                     ·simp only [Act.put, List.setIfInBounds_toArray, List.set_cons_zero, List.set_cons_succ, i64_w, i32_w]
                      rfl
                     refine pure_ (i := 3) (N := some 71) (v := ?_) (a' := ?_) #[true, true, true, true, false, false, true, false, true, false, false, false, false] rfl rfl (any_of HT_.out (by kernel_rfl)) (fun _ _ _ h => h) (Or.inl ⟨by rfl, ?_⟩) ?_ ?_
                     rotate_left
                     ·intro w'
                      go_simp
                      with_reducible rfl
                     rotate_left
                     ·simp only [Act.put, List.setIfInBounds_toArray, List.set_cons_zero, List.set_cons_succ, i64_w, i32_w]
                      rfl
                     refine pure_ (i := 4) (N := some 72) (v := ?_) (a' := ?_) #[true, true, true, true, true, false, true, false, true, false, false, false, false] rfl rfl (any_of HT_.out (by kernel_rfl)) (fun _ _ _ h => h) (Or.inl ⟨by rfl, ?_⟩) ?_ ?_
                     rotate_left
                     ·intro w'
                      go_simp
                      with_reducible rfl
                     rotate_left
                     ·simp only [Act.put, List.setIfInBounds_toArray, List.set_cons_zero, List.set_cons_succ, i64_w, i32_w]
                      rfl
                     refine take_ (i := 5) (N := some 73) (v := ?_) (a' := ?_) #[true, true, true, true, true, true, true, false, true, false, false, false, false] rfl rfl (take_ofW HT_.out HW_.out (by kernel_rfl)) (fun _ _ _ h => h) (Or.inl ⟨by rfl, ?_⟩) hHeld ?_ ?_
                     rotate_left
                     ·rintro w' ⟨s0, s1, s2, s3, s4, s5, s6, s7, s8, s9, s10, s11, s12, s13, s14, s15⟩
                      go_simp
                      with_reducible rfl
                     rotate_left
                     ·simp only [Act.put, List.setIfInBounds_toArray, List.set_cons_zero, List.set_cons_succ, i64_w, i32_w]
                      rfl
                     refine take_ (i := 7) (N := some 75) (v := ?_) (a' := ?_) #[true, true, true, true, true, true, true, true, true, false, false, false, false] rfl rfl (take_ofW HT_.out HW_.out (by kernel_rfl)) (fun _ _ _ h => h) (Or.inl ⟨by rfl, ?_⟩) hHeld ?_ ?_
                     rotate_left
                     ·rintro w' ⟨s0, s1, s2, s3, s4, s5, s6, s7, s8, s9, s10, s11, s12, s13, s14, s15⟩
                      go_simp
                      with_reducible rfl
                     rotate_left
                     ·simp only [Act.put, List.setIfInBounds_toArray, List.set_cons_zero, List.set_cons_succ, i64_w, i32_w]
                      rfl
                     refine pure_ (i := 9) (N := some 77) (v := ?_) (a' := ?_) #[true, true, true, true, true, true, true, true, true, true, false, false, false] rfl rfl (any_of HT_.out (by kernel_rfl)) (fun _ _ _ h => h) (Or.inl ⟨by rfl, ?_⟩) ?_ ?_
                     rotate_left
                     ·intro w'
                      go_simp
                      with_reducible rfl
                     rotate_left
                     ·simp only [Act.put, List.setIfInBounds_toArray, List.set_cons_zero, List.set_cons_succ, i64_w, i32_w]
                      rfl
                     refine pure_ (i := 10) (N := some 78) (v := ?_) (a' := ?_) #[true, true, true, true, true, true, true, true, true, true, true, false, false] rfl rfl (any_of HT_.out (by kernel_rfl)) (fun _ _ _ h => h) (Or.inl ⟨by rfl, ?_⟩) ?_ ?_
                     rotate_left
                     ·intro w'
                      go_simp
                      with_reducible rfl
                     rotate_left
                     ·simp only [Act.put, List.setIfInBounds_toArray, List.set_cons_zero, List.set_cons_succ, i64_w, i32_w]
                      rfl
                     refine take_ (i := 11) (N := some 79) (v := ?_) (a' := ?_) #[true, true, true, true, true, true, true, true, true, true, true, true, false] rfl rfl (take_ofW HT_.out HW_.out (by kernel_rfl)) (fun _ _ _ h => h) (Or.inl ⟨by rfl, ?_⟩) hHeld ?_ ?_
                     rotate_left
                     ·rintro w' ⟨s0, s1, s2, s3, s4, s5, s6, s7, s8, s9, s10, s11, s12, s13, s14, s15⟩
                      go_simp
                      with_reducible rfl
                     rotate_left
                     ·simp only [Act.put, List.setIfInBounds_toArray, List.set_cons_zero, List.set_cons_succ, i64_w, i32_w]
                      rfl
                     refine pure_ (i := 12) (N := some 80) (v := ?_) (a' := ?_) #[true, true, true, true, true, true, true, true, true, true, true, true, true] rfl rfl (any_of HT_.out (by kernel_rfl)) (fun _ _ _ h => h) (Or.inl ⟨by rfl, ?_⟩) ?_ ?_
                     rotate_left
                     ·intro w'
                      go_simp
                      with_reducible rfl
                     rotate_left
                     ·simp only [Act.put, List.setIfInBounds_toArray, List.set_cons_zero, List.set_cons_succ, i64_w, i32_w]
                      rfl
                     refine done_ (done_of HT_.out (by kernel_rfl)) ?_
                     try go_wp2
                     go_roundg k4
                     case measure => have := HJ1.out; have := HK2.out; have := HK3.out; have := HK4.out; omega
                     case rel => exact ⟨(wrap64 (x6_4 + 1)), (by first | rfl | (simp; done) | (simp [*]; done)), H', ⟨by have := HJ1.out; have := HK2.out; have := HK3.out; have := HK4.out; omega⟩, ⟨by (with_reducible repeat (first | refine blk_drewN ?_ _ | refine blk_drew ?_ | refine blk_alloc ?_ _)); exact BK193.out⟩, ⟨by repeat (first | (with_reducible first | exact HB.out | apply below_alloc | apply pw_below_drewN | apply below_drew1 | refine below_set ?_ GE193.out) | exact HB.out)⟩⟩
                   ·rw [if_neg c38] at H
                    exact absurd H (by simp)
                  ·rw [if_neg c37] at H
                   exact absurd H (by simp)
                 ·rw [if_neg c36] at H
                  exact absurd H (by simp)
                ·rw [if_neg c35] at H
                 exact absurd H (by simp)
               ·rw [if_neg c34] at H
                have c34b0 : decide (x6_4 < x52_3) = false := decide_eq_false c34
                clear c34
                have H' := Aside0.mk H
                clear H
                go_wp2
                go_roundg k4
                case measure => have := HJ1.out; have := HK2.out; have := HK3.out; have := HK4.out; omega
                case rel => exact ⟨(wrap64 (x52_3 + 1)), (by first | rfl | (simp; done) | (simp [*]; done)), H', ⟨by have := HJ1.out; have := HK2.out; have := HK3.out; have := HK4.out; omega⟩, ⟨by (with_reducible repeat (first | refine blk_drewN ?_ _ | refine blk_drew ?_ | refine blk_alloc ?_ _)); exact BK193.out⟩, ⟨by repeat (first | (with_reducible first | exact HB.out | apply below_alloc | apply pw_below_drewN | apply below_drew1 | refine below_set ?_ GE193.out) | exact HB.out)⟩⟩
            ·replace c31 := Bool.eq_false_iff.mpr c31
             subst c31
             have H1 : (some false) = some r := by rw [if_neg (show ¬ (false = true) by decide)] at H; exact H
             clear H
             have H := H1
             clear H1
             obtain rfl := Option.some.inj H
             try go_wp2
             have n0_ := Aside0.mk (blk_drew BK193.out)
             have n1_ := Aside0.mk (below_drew1 HB.out)
             clear BK193
             clear HB
             have BK193 := n0_
             have HB := n1_
             clear n0_ n1_
             have p198 : 0 ≤ (x52_3 : Int) := of_decide_eq_true (by first | (with_reducible assumption) | assumption)
             have q198 : x52_3 < (l0_1.length : Int) := of_decide_eq_true (by first | (with_reducible assumption) | assumption)
             obtain ⟨ad198, A198_2, c198_2, A198_6, c198_6, e198, hx198_0, hx198_1, hx198_2, hx198_3, hx198_4, hx198_5, hx198_6, hl198_2, hi198_2, hl198_6, hi198_6⟩ := at_T135 HR0_1.out x52_3 p198 q198
             have hw198_6 := hx198_6
             have hw198_5 := hx198_5
             have hw198_4 := hx198_4
             have hw198_3 := hx198_3
             have hw198_2 := hx198_2
             have hw198_1 := hx198_1
             have hw198_0 := hx198_0
             cases e198
             replace hx198_0 := (HB.out.cell (World.block_lt_of_cell? w _ hx198_0)).trans hx198_0
             replace hx198_1 := (HB.out.cell (World.block_lt_of_cell? w _ hx198_1)).trans hx198_1
             replace hx198_2 := (HB.out.cell (World.block_lt_of_cell? w _ hx198_2)).trans hx198_2
             replace hx198_3 := (HB.out.cell (World.block_lt_of_cell? w _ hx198_3)).trans hx198_3
             replace hx198_4 := (HB.out.cell (World.block_lt_of_cell? w _ hx198_4)).trans hx198_4
             replace hx198_5 := (HB.out.cell (World.block_lt_of_cell? w _ hx198_5)).trans hx198_5
             replace hx198_6 := (HB.out.cell (World.block_lt_of_cell? w _ hx198_6)).trans hx198_6
             have HR198_2 := Aside0.mk hi198_2
             have HC198_2 := Aside0.mk hl198_2
             clear hi198_2 hl198_2
             have HR198_6 := Aside0.mk hi198_6
             have HC198_6 := Aside0.mk hl198_6
             clear hi198_6 hl198_6
             replace p198 := eq_true p198
             have p198D := p198; try simp only [List.length_drop, List.length_take] at p198D
             replace q198 := eq_true q198
             have q198D := q198; try simp only [List.length_drop, List.length_take] at q198D
             refine start_ (n := 8) (S := fun w' => w'.cell? ⟨gb193, 0, none⟩ = some (.slice A0_0 l0_0.length c0_0) ∧ w'.cell? ⟨gb193, 1, none⟩ = some (.slice (some ad198) l0_1.length c0_1) ∧ w'.cell? (ad198.add ((x52_3).toNat * 7)) = some (.string ((rd_T135 l0_1 x52_3).f0)) ∧ w'.cell? ⟨(ad198.add ((x52_3).toNat * 7)).block, (ad198.add ((x52_3).toNat * 7)).off + 1, none⟩ = some (.int .i64 ((rd_T135 l0_1 x52_3).f1)) ∧ w'.cell? ⟨(ad198.add ((x52_3).toNat * 7)).block, (ad198.add ((x52_3).toNat * 7)).off + 2, none⟩ = some (.slice A198_2 ((rd_T135 l0_1 x52_3).f2).length c198_2) ∧ w'.cell? ⟨(ad198.add ((x52_3).toNat * 7)).block, (ad198.add ((x52_3).toNat * 7)).off + 3, none⟩ = some (.int .u32 ((rd_T135 l0_1 x52_3).f3)) ∧ w'.cell? ⟨(ad198.add ((x52_3).toNat * 7)).block, (ad198.add ((x52_3).toNat * 7)).off + 4, none⟩ = some (.int .i64 ((rd_T135 l0_1 x52_3).f4)) ∧ w'.cell? ⟨(ad198.add ((x52_3).toNat * 7)).block, (ad198.add ((x52_3).toNat * 7)).off + 5, none⟩ = some (.int .i64 ((rd_T135 l0_1 x52_3).f5)) ∧ w'.cell? ⟨(ad198.add ((x52_3).toNat * 7)).block, (ad198.add ((x52_3).toNat * 7)).off + 6, none⟩ = some (.slice A198_6 ((rd_T135 l0_1 x52_3).f6).length c198_6)) (ds := []) #[false, false, false, false, false, false, false, false] (by kernel_rfl) rfl rfl ⟨(blk_cell BK193.out 0).trans rfl, (blk_cell BK193.out 1).trans rfl, ((HB.out.cell (World.block_lt_of_cell? w _ hw198_0)).trans hw198_0), ((HB.out.cell (World.block_lt_of_cell? w _ hw198_1)).trans hw198_1), ((HB.out.cell (World.block_lt_of_cell? w _ hw198_2)).trans hw198_2), ((HB.out.cell (World.block_lt_of_cell? w _ hw198_3)).trans hw198_3), ((HB.out.cell (World.block_lt_of_cell? w _ hw198_4)).trans hw198_4), ((HB.out.cell (World.block_lt_of_cell? w _ hw198_5)).trans hw198_5), ((HB.out.cell (World.block_lt_of_cell? w _ hw198_6)).trans hw198_6)⟩ (fun hHeld => ?_); refine with_tabW rowlockref12_May.tab17 rowlockref12_May.bits17 (fun HT_ HW_ => ?_)
             generalize wr.drew = w42 at BK193 HB HR198_2 HR198_6 hx198_0 hx198_1 hx198_2 hx198_3 hx198_4 hx198_5 hx198_6 hHeld ⊢
             refine pure_ (i := 1) (N := some 56) (v := ?_) (a' := ?_) #[false, true, false, false, false, false, false, false] rfl rfl (any_of HT_.out (by kernel_rfl)) (fun _ _ _ h => h) (Or.inl ⟨by rfl, ?_⟩) ?_ ?_
             rotate_left
             ·intro w'
              go_simp
              with_reducible rfl
             rotate_left
             ·simp only [Act.put, List.setIfInBounds_toArray, List.set_cons_zero, List.set_cons_succ, i64_w, i32_w]
              rfl
             refine pure_ (i := 3) (N := some 58) (v := ?_) (a' := ?_) #[false, true, false, true, false, false, false, false] rfl rfl (any_of HT_.out (by kernel_rfl)) (fun _ _ _ h => h) (Or.inl ⟨by rfl, ?_⟩) ?_ ?_
             rotate_left
             ·intro w'
              go_simp
              with_reducible rfl
             rotate_left
             ·simp only [Act.put, List.setIfInBounds_toArray, List.set_cons_zero, List.set_cons_succ, i64_w, i32_w]
              rfl
             refine take_ (i := 0) (N := some 55) (v := ?_) (a' := ?_) #[true, true, false, true, false, false, false, false] rfl rfl (take_ofW HT_.out HW_.out (by kernel_rfl)) (fun _ _ _ h => h) (Or.inl ⟨by rfl, ?_⟩) hHeld ?_ ?_
             rotate_left
             ·rintro w' ⟨s0, s1, s2, s3, s4, s5, s6, s7, s8⟩
              go_simp
              with_reducible rfl
             rotate_left
             ·simp only [Act.put, List.setIfInBounds_toArray, List.set_cons_zero, List.set_cons_succ, i64_w, i32_w]
              rfl
             refine take_ (i := 2) (N := some 57) (v := ?_) (a' := ?_) #[true, true, true, true, false, false, false, false] rfl rfl (take_ofW HT_.out HW_.out (by kernel_rfl)) (fun _ _ _ h => h) (Or.inl ⟨by rfl, ?_⟩) hHeld ?_ ?_
             rotate_left
             ·rintro w' ⟨s0, s1, s2, s3, s4, s5, s6, s7, s8⟩
              go_simp
              with_reducible rfl
             rotate_left
             ·simp only [Act.put, List.setIfInBounds_toArray, List.set_cons_zero, List.set_cons_succ, i64_w, i32_w]
              rfl
             refine pure_ (i := 4) (N := some 59) (v := ?_) (a' := ?_) #[true, true, true, true, true, false, false, false] rfl rfl (any_of HT_.out (by kernel_rfl)) (fun _ _ _ h => h) (Or.inl ⟨by rfl, ?_⟩) ?_ ?_
             rotate_left
             ·intro w'
              go_simp
              with_reducible rfl
             rotate_left
             ·simp only [Act.put, List.setIfInBounds_toArray, List.set_cons_zero, List.set_cons_succ, i64_w, i32_w]
              rfl
             refine take_ (i := 5) (N := some 60) (v := ?_) (a' := ?_) #[true, true, true, true, true, true, false, false] rfl rfl (take_ofW HT_.out HW_.out (by kernel_rfl)) (fun _ _ _ h => h) (Or.inl ⟨by rfl, ?_⟩) hHeld ?_ ?_
             rotate_left
             ·rintro w' ⟨s0, s1, s2, s3, s4, s5, s6, s7, s8⟩
              go_simp
              with_reducible rfl
             rotate_left
             ·simp only [Act.put, List.setIfInBounds_toArray, List.set_cons_zero, List.set_cons_succ, i64_w, i32_w]
              rfl
             refine one_ (i := 6) (N := some 61) #[true, true, true, true, true, true, true, false] rfl rfl (one_of HT_.out (by kernel_rfl)) (by decide) (fun K hK => ?_)
             refine goes_ Try.func58 (by kernel_rfl) rfl #[.agg #[.slice A0_0 l0_0.length c0_0, .slice (some ad198) l0_1.length c0_1], .agg #[.string ((rd_T135 l0_1 x52_3).f0), .int .i64 ((rd_T135 l0_1 x52_3).f1), .slice A198_2 ((rd_T135 l0_1 x52_3).f2).length c198_2, .int .u32 ((rd_T135 l0_1 x52_3).f3), .int .i64 ((rd_T135 l0_1 x52_3).f4), .int .i64 ((rd_T135 l0_1 x52_3).f5), .slice A198_6 ((rd_T135 l0_1 x52_3).f6).length c198_6]] (by rfl) rfl rfl (by (try simp only [List.map_toArray, List.map_cons, List.map_nil]); first | done | rfl | (simp only [List.length_drop, List.length_take]; rfl)) ?_
             with_reducible refine (rowlockref12_index.calls k3 _ _ l0_0 _ _ l0_1 ((rd_T135 l0_1 x52_3).f0) ((rd_T135 l0_1 x52_3).f1) _ _ ((rd_T135 l0_1 x52_3).f2) ((rd_T135 l0_1 x52_3).f3) ((rd_T135 l0_1 x52_3).f4) ((rd_T135 l0_1 x52_3).f5) _ _ ((rd_T135 l0_1 x52_3).f6) false _ ?side1 ?side2 ?side3 ?side4 ?side5 ?side6 ?side7 ?side8 A30.out).mono ?_
             (case side1 => repeat (first | exact (Kd.C_below HR0_0.out HB.out) | (with_reducible refine Kd.C_alloc ?_ _) | (with_reducible refine Kd.C_drewN ?_ _) | (with_reducible refine Kd.C_drew ?_)))
             (case side2 => exact HC0_0.out)
             (case side3 => repeat (first | exact (Kd.C_below HR0_1.out HB.out) | (with_reducible refine Kd.C_alloc ?_ _) | (with_reducible refine Kd.C_drewN ?_ _) | (with_reducible refine Kd.C_drew ?_)))
             (case side4 => exact HC0_1.out)
             (case side5 => repeat (first | exact (Kd.C_below HR198_2.out HB.out) | (with_reducible refine Kd.C_alloc ?_ _) | (with_reducible refine Kd.C_drewN ?_ _) | (with_reducible refine Kd.C_drew ?_)))
             (case side6 => exact HC198_2.out)
             (case side7 => repeat (first | exact (Kd.C_below HR198_6.out HB.out) | (with_reducible refine Kd.C_alloc ?_ _) | (with_reducible refine Kd.C_drewN ?_ _) | (with_reducible refine Kd.C_drew ?_)))
             (case side8 => exact HC198_6.out)
             rintro e w43 ⟨rfl, hb⟩
             refine ⟨_, rfl, ?_⟩
             have n0_ := Aside0.mk (blk_below (g := gb193) (o := .cells #[.slice A0_0 l0_0.length c0_0, .slice (some ad198) l0_1.length c0_1] 80 (0, 0)) (by (with_reducible repeat (first | refine blk_drewN ?_ _ | refine blk_drew ?_ | refine blk_alloc ?_ _)); exact BK193.out) hb)
             have n1_ := Aside0.mk (below_step (by repeat (first | (with_reducible first | exact HB.out | apply below_alloc | apply pw_below_drewN | apply below_drew1 | refine below_set ?_ GE193.out) | exact HB.out)) hb)
             clear BK193
             clear HB
             have BK193 := n0_
             have HB := n1_
             clear n0_ n1_
             (try clear hb)
             (try clear hb2)
             (try clear hk)
             (try clear hi)
             refine hK.out _ _ ⟨(blk_cell BK193.out 0).trans rfl, (blk_cell BK193.out 1).trans rfl, ((HB.out.cell (World.block_lt_of_cell? w _ hw198_0)).trans hw198_0), ((HB.out.cell (World.block_lt_of_cell? w _ hw198_1)).trans hw198_1), ((HB.out.cell (World.block_lt_of_cell? w _ hw198_2)).trans hw198_2), ((HB.out.cell (World.block_lt_of_cell? w _ hw198_3)).trans hw198_3), ((HB.out.cell (World.block_lt_of_cell? w _ hw198_4)).trans hw198_4), ((HB.out.cell (World.block_lt_of_cell? w _ hw198_5)).trans hw198_5), ((HB.out.cell (World.block_lt_of_cell? w _ hw198_6)).trans hw198_6)⟩ (fun hHeld => ?_)
             clear hK K
             refine norm_ (a' := ?_) ?_ ?_
             rotate_left
             ·show Act.put _ (some 61) _ = _
              simp only [Act.put, List.setIfInBounds_toArray, List.set_cons_zero, List.set_cons_succ, i64_w, i32_w]
              rfl
             refine pure_ (i := 7) (N := some 62) (v := ?_) (a' := ?_) #[true, true, true, true, true, true, true, true] rfl rfl (any_of HT_.out (by kernel_rfl)) (fun _ _ _ h => h) (Or.inl ⟨by rfl, ?_⟩) ?_ ?_
             rotate_left
             ·intro w'
              go_simp
              with_reducible rfl
             rotate_left
             ·simp only [Act.put, List.setIfInBounds_toArray, List.set_cons_zero, List.set_cons_succ, i64_w, i32_w]
              rfl
             refine done_ (done_of HT_.out (by kernel_rfl)) ?_
             try go_wp2
             go_ret
             exact ⟨by first | rfl | (simp [errW_none, errW_some] <;> rfl) | (simp [*, errW_none, errW_some] <;> rfl), by repeat (first | (with_reducible first | exact HB.out | apply below_alloc | apply pw_below_drewN | apply below_drew1 | refine below_set ?_ GE193.out) | exact HB.out)⟩
           ·rw [if_neg c29] at H
            exact absurd H (by simp)
          ·rw [if_neg c28] at H
           exact absurd H (by simp)
         ·rw [if_neg c27] at H
          have c27b0 : decide (x52_3 < (l0_1.length : Int)) = false := decide_eq_false c27
          clear c27
          obtain rfl := Option.some.inj H
          go_wp2
          go_ret
          exact ⟨by first | rfl | (simp [errW_none, errW_some] <;> rfl) | (simp [*, errW_none, errW_some] <;> rfl), by repeat (first | (with_reducible first | exact HB.out | apply below_alloc | apply pw_below_drewN | apply below_drew1 | refine below_set ?_ GE193.out) | exact HB.out)⟩

end Go.Proofs.Ytpfegfkniilobaa.XSchema
