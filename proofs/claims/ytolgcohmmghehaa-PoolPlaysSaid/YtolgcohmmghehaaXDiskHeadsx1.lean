-- Written by this session's own program (wip/own_print.py) over the kit's print, with this session's hand-proved contracts in their places; Lean checks it.
import Derived.Test.YtolgcohmmghehaaXDiskHeadsx0
namespace Go.Proofs.Ytolgcohmmghehaa.XDiskHeads
open Go.RowKit Go.Proofs.YtolgcohmmghehaaW.PrintWords Go.Proofs.YtolgcohmmghehaaW.PrintLast Go.Proofs.YtolgcohmmghehaaW.PrintMore
attribute [local go_sem] max2_int min2_int max_two min_two max_three min_three max_four min_four   -- for this text's walks alone
set_option linter.unusedVariables false
set_option linter.unusedSimpArgs false

/-! ### rowlocklaw06_fixed: function 15 -/
def rowlocklaw06_fixed.f : Option Bool := some true
theorem rowlocklaw06_fixed.calls (r : Bool) (w : World) (h : rowlocklaw06_fixed.f = some r) : Calls Try.prog 15 #[] w fun e w' => e = .returned (.bool r) ∧ Below w.heap.size w w' := by
  obtain rfl := Option.some.inj h
  exact Dsk.fixed_ok w

/-! ### disk_Put: function 16 -/
/-- A head's eight bytes. -/
def disk_Put.hd (a0 a1 a2 : Int) : List Int := [a0, 0, a1 / 256 % 256, a1 % 256, a2 / 16777216 % 256, a2 / 65536 % 256, a2 / 256 % 256, a2 % 256]
def disk_Put.f (a0 a1 a2 : Int) : Option (List Int) := some (disk_Put.hd a0 a1 a2 ++ List.replicate 504 0)
set_option maxRecDepth 100000 in
theorem disk_Put.calls (a0_0 a0_1 a0_2 : Int) (r : List Int) (w : World) (h : disk_Put.f a0_0 a0_1 a0_2 = some r) : Calls Try.prog 16 #[.agg #[.int .u8 a0_0, .int .u16 a0_1, .int .u32 a0_2]] w fun e w' => ∃ v : Value, e = .returned v ∧ Kd.R (Kd.int .u8) 5 w' w.heap.size (fun _ => True) v r ∧ Below w.heap.size w w' := by
  obtain rfl := Option.some.inj h
  clear h
  go_enter Try.func16, Try.ntmps16
  go_wp2_with (first | ((with_reducible refine gate_dst (N := 4) rfl ?_); refine Kd.R_make (Kd.int .u8) _ 5 rfl (N := 4) rfl 26 _ _ rfl 512 rfl rfl Try.underlying26 (.int .u8 0) 1 info5 rfl (by decide) (by omega) 0 (ok := fun _ => True) (okp := fun _ => True) rfl (fun _ hk => hk) trivial (by omega) (by omega) (Below.refl _ _) (Nat.le_refl _) ?_; intro v w2 ho2 hb2 hg2 hnew2; have HO2 := Aside0.mk ho2; have HL2 := Aside0.mk hb2; have HR2 := Aside0.mk (blk_below (blk_new w _) hb2); clear ho2 hb2 hg2 hnew2; have hr0 := (blk_cell HR2.out 0).trans rfl; have hr1 := (blk_cell HR2.out 1).trans rfl; have hr2 := (blk_cell HR2.out 2).trans rfl) | ((with_reducible refine gate_dst (N := 30) rfl ?_); refine Kd.R_lit (Kd.int .u8) _ 5 ?hg (N := 30) ?hd (xs := disk_Put.hd a0_0 a0_1 a0_2) (inner := [.int .u8 a0_0, .int .u8 0, .int .u8 (a0_1 / 256 % 256), .int .u8 (a0_1 % 256), .int .u8 (a0_2 / 16777216 % 256), .int .u8 (a0_2 / 65536 % 256), .int .u8 (a0_2 / 256 % 256), .int .u8 (a0_2 % 256)]) (ok := fun _ => True) (okp := fun _ => True) ?hr ?hp (fun _ hk => hk) trivial (Below.refl _ _) (Nat.le_refl _) (by simp [disk_Put.hd]) ?_; (case hd => rfl); (case hg => rfl); (case hr => first | (go_simp; done) | (go_simp; rfl)); (case hp => exact (Reps.one (show Kd.M (Kd.int .u8) _ _ _ a0_0 [.int .u8 a0_0] from rfl) (Reps.one (show Kd.M (Kd.int .u8) _ _ _ 0 [.int .u8 0] from rfl) (Reps.one (show Kd.M (Kd.int .u8) _ _ _ (a0_1 / 256 % 256) [.int .u8 (a0_1 / 256 % 256)] from rfl) (Reps.one (show Kd.M (Kd.int .u8) _ _ _ (a0_1 % 256) [.int .u8 (a0_1 % 256)] from rfl) (Reps.one (show Kd.M (Kd.int .u8) _ _ _ (a0_2 / 16777216 % 256) [.int .u8 (a0_2 / 16777216 % 256)] from rfl) (Reps.one (show Kd.M (Kd.int .u8) _ _ _ (a0_2 / 65536 % 256) [.int .u8 (a0_2 / 65536 % 256)] from rfl) (Reps.one (show Kd.M (Kd.int .u8) _ _ _ (a0_2 / 256 % 256) [.int .u8 (a0_2 / 256 % 256)] from rfl) (Reps.one (show Kd.M (Kd.int .u8) _ _ _ (a0_2 % 256) [.int .u8 (a0_2 % 256)] from rfl) (Reps.none _ _)))))))))); intro v3 w3 ho3 hb3 hg3 hnew3; have HO3 := Aside0.mk ho3; have HL3 := Aside0.mk hb3; have HOa := Aside0.mk (Kd.R_below HO2.out hb3); clear hg3 hnew3 ho3 hb3; obtain ⟨A3, c3, e3⟩ := Kd.R_slice HO3.out; subst e3) | ((with_reducible refine gate_builtin (b := .copy) (xs := #[.tmp 5, .tmp 30]) rfl ?_); refine Kd.R_copy (enc := Value.int .u8) (h1 := fun _ => rfl) (0 : Int) (w0 := w) w.heap.size rfl (.tmp 5) (.tmp 30) 26 26 5 rfl Try.underlying26 (by kernel_rfl) v (List.replicate 512 0) (disk_Put.hd a0_0 a0_1 a0_2) _ _ _ (fun _ => True) rfl rfl ?cO ?cR ?cB ?cS ?_; (case cO => exact Kd.R_lower HOa.out (by simp)); (case cR => exact (Kd.R_reads' HO3.out).2.2); (case cB => exact below_then (below_then (below_alloc (Below.refl _ _) _) (by simp) HL2.out) (by have := HL2.out.size; simp at this; omega) HL3.out); (case cS => have h2 := HL2.out.size; have h3 := HL3.out.size; simp at h2; omega); intro w4 ho4 hb4 hg4; have HO4 := Aside0.mk ho4; have HB4 := Aside0.mk hb4; clear ho4 hb4 hg4))
  go_ret
  refine ⟨v, rfl, ?_, HB4.out⟩
  have h := HO4.out
  rw [show min (disk_Put.hd a0_0 a0_1 a0_2).length (List.replicate 512 (0 : Int)).length = 8 by simp [disk_Put.hd], show (disk_Put.hd a0_0 a0_1 a0_2).take 8 = disk_Put.hd a0_0 a0_1 a0_2 from rfl, List.drop_replicate] at h
  exact h

/-! ### disk_Get: function 17 -/
mutual
def disk_Get.j0 : Nat → List Int → Bool → Option (Int × Int × Int × Bool)
  | 0, _, _ => none
  | k + 1, x0, x15 => if x15 = true then (some (0, 0, 0, false)) else (if 4 ≤ 8 then (if 8 ≤ (x0.length : Int) then (disk_Get.l0 k x0 0 ((x0.take 8).drop 4) (((x0.take 8).drop 4).length : Int) 0) else (none)) else (none))
def disk_Get.l0 : Nat → List Int → Int → List Int → Int → Int → Option (Int × Int × Int × Bool)
  | 0, _, _, _, _, _ => none
  | k + 1, x0, x4, x18, x19, x20 => if x20 < x19 then (if 0 ≤ x20 then (if x20 < (x18.length : Int) then (disk_Get.l0 k x0 (Go.bits .or .u32 ((x4 * 256) % 4294967296) ((rd x18 x20) % 4294967296)) x18 x19 (wrap64 (x20 + 1))) else (none)) else (none)) else (if 0 < (x0.length : Int) then (if 2 < (x0.length : Int) then (if 3 < (x0.length : Int) then (some (rd x0 0, Go.bits .or .u16 (IntKind.u16.wrap ((IntKind.u16.wrap (rd x0 2)) * 256)) (IntKind.u16.wrap (rd x0 3)), x4, true)) else (none)) else (none)) else (none))
end
def disk_Get.f (k : Nat) (l0 : List Int) : Option (Int × Int × Int × Bool) := if (l0.length : Int) = 512 then (if 1 < (l0.length : Int) then (disk_Get.j0 k l0 ((rd l0 1) != 0)) else (none)) else (disk_Get.j0 k l0 true)
theorem disk_Get.mono_l : ∀ k, (∀ y0 y1, LeO (disk_Get.j0 k y0 y1) (disk_Get.j0 (k + 1) y0 y1)) ∧ (∀ y0 y1 y2 y3 y4, LeO (disk_Get.l0 k y0 y1 y2 y3 y4) (disk_Get.l0 (k + 1) y0 y1 y2 y3 y4))
  | 0 => ⟨fun _ _ r h => by simp [disk_Get.j0] at h, fun _ _ _ _ _ r h => by simp [disk_Get.l0] at h⟩
  | k + 1 => by
    obtain ⟨ih0, ih1⟩ := disk_Get.mono_l k
    refine ⟨?_, ?_⟩
    · intro y0 y1
      unfold disk_Get.j0
      repeat' first
      | (with_reducible exact ih0 _ _)
      | (with_reducible exact ih1 _ _ _ _ _)
      | (with_reducible exact LeO.refl _)
      | (with_reducible exact LeO.none _)
      | (with_reducible refine LeO.ite ?_ ?_)
      | (with_reducible refine LeO.bind ?_ (fun _ => ?_))
      | exact ih0 _ _
      | exact ih1 _ _ _ _ _
      | exact LeO.none _
      | refine LeO.ite ?_ ?_
      | refine LeO.bind ?_ (fun _ => ?_)
    · intro y0 y1 y2 y3 y4
      unfold disk_Get.l0
      repeat' first
      | (with_reducible exact ih0 _ _)
      | (with_reducible exact ih1 _ _ _ _ _)
      | (with_reducible exact LeO.refl _)
      | (with_reducible exact LeO.none _)
      | (with_reducible refine LeO.ite ?_ ?_)
      | (with_reducible refine LeO.bind ?_ (fun _ => ?_))
      | exact ih0 _ _
      | exact ih1 _ _ _ _ _
      | exact LeO.none _
      | refine LeO.ite ?_ ?_
      | refine LeO.bind ?_ (fun _ => ?_)
theorem disk_Get.mono : ∀ a0 k, LeO (disk_Get.f k a0) (disk_Get.f (k + 1) a0) := by
  intro a0 k
  obtain ⟨ih0, ih1⟩ := disk_Get.mono_l k
  unfold disk_Get.f
  repeat' first
      | (with_reducible exact ih0 _ _)
      | (with_reducible exact ih1 _ _ _ _ _)
      | (with_reducible exact LeO.refl _)
      | (with_reducible exact LeO.none _)
      | (with_reducible refine LeO.ite ?_ ?_)
      | (with_reducible refine LeO.bind ?_ (fun _ => ?_))
      | exact ih0 _ _
      | exact ih1 _ _ _ _ _
      | exact LeO.none _
      | refine LeO.ite ?_ ?_
      | refine LeO.bind ?_ (fun _ => ?_)
def disk_Get.T9 : Bool × List (List Nat × List Nat) := (true, [([], []), ([0], [0]), ([1], [1]), ([], []), ([3], [3]), ([4], [4]), ([5], [5]), ([6], [6]), ([], []), ([8], [8]), ([9], [9]), ([10], [10]), ([7, 11], [7, 11]), ([], []), ([2, 12, 13], [2, 12, 13]), ([14, 0, 1, 2, 3, 4, 5, 6, 7, 8, 9, 10, 11, 12, 13, 14], [14]), ([15, 0, 1, 2, 3, 4, 5, 6, 7, 8, 9, 10, 11, 12, 13, 14, 15], [])])
def disk_Get.B9 : List Nat := [0, 1, 3, 0, 8, 24, 56, 120, 0, 256, 768, 1792, 4088, 0, 16383, 32767, 65535]
theorem disk_Get.tab9 : rtab .any (opsOf Try.f17 9) = disk_Get.T9 := by kernel_rfl
theorem disk_Get.bits9 : waitsOk disk_Get.T9.2 disk_Get.B9 = true := by kernel_rfl
set_option maxHeartbeats 8000000 in
set_option maxRecDepth 100000 in
theorem disk_Get.calls (k : Nat) (A0 : Option Addr) (c0 : Nat) (l0 : List Int) (r1 : Int) (r2 : Int) (r3 : Int) (r4 : Bool) (w : World) (hr0 : Kd.C (Kd.int .u8) w A0 l0.length l0) (hc0 : l0.length ≤ c0) (h : disk_Get.f k l0 = some (r1, r2, r3, r4)) :
    Calls Try.prog 17 #[.slice A0 l0.length c0] w fun e w' => e = .returned (.tuple #[.agg #[.int .u8 r1, .int .u16 r2, .int .u32 r3], .bool r4]) ∧ Below w.heap.size w w' := by
  have hu25 := Try.underlying25
  have HR0 := Aside0.mk hr0
  have HC0 := Aside0.mk hc0
  clear hr0 hc0
  have HB := Aside0.mk (Below.refl w.heap.size w)
  have H : (if (l0.length : Int) = 512 then (if 1 < (l0.length : Int) then (disk_Get.j0 k l0 ((rd l0 1) != 0)) else (none)) else (disk_Get.j0 k l0 true)) = some (r1, r2, r3, r4) := h
  clear h
  have HC2 := Aside0.mk H
  clear H
  go_enter Try.func17, Try.ntmps17
  go_upto_region 1 with (first | ((with_reducible refine gate_dst (N := 2) rfl ?_); refine box_event ?hg (N := 2) ?hd (cs := #[.int .u8 0, .int .u16 0, .int .u32 0]) (t := 25) ?hr ?_; (case hd => rfl); (case hg => rfl); (case hr => first | (go_simp; done) | (go_simp; rfl)); intro gb101 hg w3 hbox hb; have n0_ := Aside0.mk (below_step (by repeat (first | (with_reducible first | exact HB.out | apply below_alloc | apply pw_below_drewN | apply below_drew1) | exact HB.out)) hb); have n1_ := Aside0.mk (hbox); have n2_ := Aside0.mk ((by rw [hg]; exact (below_size (by repeat (first | (with_reducible first | exact HB.out | apply below_alloc | apply pw_below_drewN | apply below_drew1) | exact HB.out))) : w.heap.size ≤ gb101)); have n3_ := Aside0.mk ((by rw [hg]; exact (below_size (by repeat (first | (with_reducible first | exact HB.out | apply below_alloc | apply pw_below_drewN | apply below_drew1) | exact HB.out))) : w.heap.size ≤ gb101)); clear HB; have HB := n0_; have BK101 := n1_; have GW101 := n2_; have GE101 := n3_; clear n0_ n1_ n2_ n3_; clear hb hbox hg))
  (try simp only [Act.put, List.setIfInBounds_toArray, List.set_cons_zero, List.set_cons_succ])
  go_cut [15] (fun v15 wc => ∃ (kq : Nat) (x15_1 : Bool), v15 = .bool x15_1 ∧ Aside0 (disk_Get.j0 kq l0 x15_1 = some (r1, r2, r3, r4)) ∧ Aside0 (kq ≤ k) ∧ Aside0 (wc.heap[gb101]? = some (.cells #[.int .u8 0, .int .u16 0, .int .u32 0] 25 (0, 0))) ∧ Aside0 (Below w.heap.size w wc))
  case first =>
    have H := HC2.out
    clear HC2
    by_cases c4 : (l0.length : Int) = 512
    · rw [if_pos c4] at H
      have c4b0 : ((l0.length : Int) == 512) = true := beq_iff_eq.mpr c4
      have c4b1 : ((l0.length : Int) != 512) = false := bne_eq_false_iff_eq.mpr c4
      clear c4
      (first | rw [c4b0] | (simp only [i64_w, i32_w]; rw [c4b0]) | skip)
      by_cases c5 : 1 < (l0.length : Int)
      · rw [if_pos c5] at H
        have c5b0 : decide (1 < (l0.length : Int)) = true := decide_eq_true c5
        have c5b1 : decide (1 < l0.length) = true := decide_eq_true (by omega)
        clear c5
        have H' := Aside0.mk H
        clear H
        have p102 : 0 ≤ (1 : Int) := (by omega)
        have q102 : 1 < (l0.length : Int) := of_decide_eq_true (by first | (with_reducible assumption) | assumption)
        obtain ⟨ad102, e102, hx102_0⟩ := Kd.at_int HR0.out 1 p102 q102
        cases e102
        (try simp only [show (1 : Int).toNat = 1 from rfl, Nat.reduceMul, Nat.reduceEqDiff, Go.Addr.add, ↓reduceIte] at hx102_0)
        have qi102 : (1 < l0.length) = True := eq_true (by omega)
        (try rw [show ((1 : Int)).toNat = 1 from rfl] at hx102_0)
        replace hx102_0 := (HB.out.cell (World.block_lt_of_cell? w _ hx102_0)).trans hx102_0
        replace p102 := eq_true p102
        have p102D := p102; try simp only [List.length_drop, List.length_take] at p102D
        replace q102 := eq_true q102
        have q102D := q102; try simp only [List.length_drop, List.length_take] at q102D
        go_wp2
        go_meet
        case rel => exact ⟨_, (((rd l0 1) != 0)), (by first | rfl | (simp; done) | (simp [*]; done)), H', ⟨by first | omega | exact Nat.le_refl _⟩, ⟨by (with_reducible repeat (first | refine blk_drewN ?_ _ | refine blk_drew ?_ | refine blk_alloc ?_ _)); exact BK101.out⟩, ⟨by repeat (first | (with_reducible first | exact HB.out | apply below_alloc | apply pw_below_drewN | apply below_drew1 | refine below_set ?_ GE101.out) | exact HB.out)⟩⟩
      · rw [if_neg c5] at H
        exact absurd H (by simp)
    · rw [if_neg c4] at H
      have c4b0 : ((l0.length : Int) == 512) = false := beq_eq_false_iff_ne.mpr c4
      have c4b1 : ((l0.length : Int) != 512) = true := bne_iff_ne.mpr c4
      (first | rw [c4b0] | (simp only [i64_w, i32_w]; rw [c4b0]) | skip)
      have H' := Aside0.mk H
      clear H
      go_wp2
      go_meet
      case rel => exact ⟨_, (true), (by first | rfl | (simp; done) | (simp [*]; done)), H', ⟨by first | omega | exact Nat.le_refl _⟩, ⟨by (with_reducible repeat (first | refine blk_drewN ?_ _ | refine blk_drew ?_ | refine blk_alloc ?_ _)); exact BK101.out⟩, ⟨by repeat (first | (with_reducible first | exact HB.out | apply below_alloc | apply pw_below_drewN | apply below_drew1 | refine below_set ?_ GE101.out) | exact HB.out)⟩⟩
  case rest =>
    clear HC2
    try clear c1
    try clear p1
    try clear q1
    try clear hx1
    try clear qi1
    try clear p2
    try clear c4
    try clear c4b0
    try clear c4b1
    try clear c5
    try clear c5b0
    try clear c5b1
    try clear hx102_0
    try clear p102
    try clear q102
    obtain ⟨kq, x15_1, rfl, HA, HJ1, BK101, HB⟩ := hcut
    cases kq with
    | zero => exact absurd HA.out (by simp [disk_Get.j0])
    | succ kj1 =>
      have H := HA.out
      clear HA
      simp only [disk_Get.j0] at H
      by_cases c6 : x15_1 = true
      · subst c6
        have H1 : (some (0, 0, 0, false)) = some (r1, r2, r3, r4) := by rw [if_pos rfl] at H; exact H
        clear H
        have H := H1
        clear H1
        simp only [Option.some.injEq, Prod.mk.injEq] at H
        obtain ⟨rfl, rfl, rfl, rfl⟩ := H
        have hcz7_0 : wc.cell? ⟨gb101, 0, none⟩ = some (.int .u8 0) := (blk_cell BK101.out 0).trans rfl
        have hcz7_1 : wc.cell? ⟨gb101, 1, none⟩ = some (.int .u16 0) := (blk_cell BK101.out 1).trans rfl
        have hcz7_2 : wc.cell? ⟨gb101, 2, none⟩ = some (.int .u32 0) := (blk_cell BK101.out 2).trans rfl
        have hfz7_0 := blk_frozen BK101.out 0
        have hfz7_1 := blk_frozen BK101.out 1
        have hfz7_2 := blk_frozen BK101.out 2
        go_wp2
        refine bodyPost_ret (results_ct rfl _ _ gb101 25 #[.int .u8 0, .int .u16 0, .int .u32 0] (0, 0) _ rfl (by (with_reducible repeat (first | refine blk_drewN ?_ _ | refine blk_drew ?_ | refine blk_alloc ?_ _)); refine blk_put (cs := #[.int .u8 0, .int .u16 0, .int .u32 0]) ?_ 2 _ rfl; (with_reducible repeat (first | refine blk_drewN ?_ _ | refine blk_drew ?_ | refine blk_alloc ?_ _)); refine blk_put (cs := #[.int .u8 0, .int .u16 0, .int .u32 0]) ?_ 1 _ rfl; (with_reducible repeat (first | refine blk_drewN ?_ _ | refine blk_drew ?_ | refine blk_alloc ?_ _)); refine blk_put (cs := #[.int .u8 0, .int .u16 0, .int .u32 0]) ?_ 0 _ rfl; (with_reducible repeat (first | refine blk_drewN ?_ _ | refine blk_drew ?_ | refine blk_alloc ?_ _)); exact BK101.out) Try.underlying25 rfl (by kernel_rfl)) rfl ?_
        exact ⟨by first | rfl | (simp [errW_none, errW_some] <;> rfl) | (simp [*, errW_none, errW_some] <;> rfl), by repeat (first | (with_reducible first | exact HB.out | apply below_alloc | apply pw_below_drewN | apply below_drew1 | refine below_set ?_ GE101.out) | exact HB.out)⟩
      · replace c6 := Bool.eq_false_iff.mpr c6
        subst c6
        have H1 : (if 4 ≤ 8 then (if 8 ≤ (l0.length : Int) then (disk_Get.l0 kj1 l0 0 ((l0.take 8).drop 4) (((l0.take 8).drop 4).length : Int) 0) else (none)) else (none)) = some (r1, r2, r3, r4) := by rw [if_neg (show ¬ (false = true) by decide)] at H; exact H
        clear H
        have H := H1
        clear H1
        by_cases c8 : 4 ≤ 8
        · rw [if_pos c8] at H
          have c8b0 := eq_true c8
          have c8b1 : decide (4 ≤ 8) = true := decide_eq_true c8
          clear c8
          by_cases c9 : 8 ≤ (l0.length : Int)
          · rw [if_pos c9] at H
            have c9b0 := eq_true c9
            have c9b1 : decide (8 ≤ (l0.length : Int)) = true := decide_eq_true c9
            clear c9
            have H' := Aside0.mk H
            clear H
            obtain ⟨i010, hi010, _, hsz10, _⟩ := info_parts info5
            obtain ⟨A10, hcut10, hA10, hC10⟩ := print_mid_of (P := Try.prog) (Value.int .u8) 0 26 5 .i64 .i64 Try.underlying26 hi010 hsz10 A0 c0 l0 4 8 (by omega) (by first | omega | exact of_decide_eq_true (by first | (with_reducible assumption) | assumption)) (of_decide_eq_true (by first | (with_reducible assumption) | assumption)) HC0.out
            have HR103 := Aside0.mk (Kd.C_of_reads (h1 := fun _ => rfl) (hA10 _ (Kd.reads_of_C HR0.out)))
            have HC103 := Aside0.mk hC10
            clear hA10 hC10 hi010 hsz10
            go_wp2
            go_loopg [4, 20] kj1 (fun kq v4 v20 w' => ∃ (x4_2 : Int) (x20_2 : Int), v4 = .int .u32 x4_2 ∧ v20 = .int .i64 x20_2 ∧ Aside0 (disk_Get.l0 kq l0 x4_2 ((l0.take 8).drop 4) (((l0.take 8).drop 4).length : Int) x20_2 = some (r1, r2, r3, r4)) ∧ Aside0 (kq ≤ kj1) ∧ Aside0 (w'.heap[gb101]? = some (.cells #[.int .u8 0, .int .u16 0, .int .u32 0] 25 (0, 0))) ∧ Aside0 (Below w.heap.size w w'))
            case atStart => exact ⟨(0), (0), (by first | rfl | (simp; done) | (simp [*]; done)), (by first | rfl | (simp; done) | (simp [*]; done)), H', ⟨Nat.le_refl _⟩, ⟨by (with_reducible repeat (first | refine blk_drewN ?_ _ | refine blk_drew ?_ | refine blk_alloc ?_ _)); exact BK101.out⟩, ⟨by repeat (first | (with_reducible first | exact HB.out | apply below_alloc | apply pw_below_drewN | apply below_drew1 | refine below_set ?_ GE101.out) | exact HB.out)⟩⟩
            case round =>
              clear H'
              try clear c1
              try clear p1
              try clear q1
              try clear hx1
              try clear qi1
              try clear p2
              try clear c4
              try clear c4b0
              try clear c4b1
              try clear c5
              try clear c5b0
              try clear c5b1
              try clear c6
              try clear c8
              try clear c8b0
              try clear c8b1
              try clear c9
              try clear c9b0
              try clear c9b1
              try clear p10
              try clear q10
              try clear hx10
              try clear qi10
              try clear hcz7_0
              try clear hcz7_1
              try clear hcz7_2
              try clear hfz7_0
              try clear hfz7_1
              try clear hfz7_2
              try clear hx102_0
              try clear p1
              try clear p102
              try clear p2
              try clear q1
              try clear q102
              obtain ⟨x4_2, x20_2, rfl, rfl, HA, HK2, BK101, HB⟩ := hrel
              cases gk with
              | zero => exact absurd HA.out (by simp [disk_Get.l0])
              | succ k2 =>
                have H := HA.out
                clear HA
                simp only [disk_Get.l0] at H
                by_cases c11 : x20_2 < (((l0.take 8).drop 4).length : Int)
                · rw [if_pos c11] at H
                  have c11b0 : decide (x20_2 < (((l0.take 8).drop 4).length : Int)) = true := decide_eq_true c11
                  have c11b0D := c11b0; try simp only [List.length_drop, List.length_take] at c11b0D
                  clear c11
                  by_cases c12 : 0 ≤ x20_2
                  · rw [if_pos c12] at H
                    have c12b0 : decide (0 ≤ x20_2) = true := decide_eq_true c12
                    clear c12
                    by_cases c13 : x20_2 < (((l0.take 8).drop 4).length : Int)
                    · rw [if_pos c13] at H
                      have c13b0 : decide (x20_2 < (((l0.take 8).drop 4).length : Int)) = true := decide_eq_true c13
                      have c13b0D := c13b0; try simp only [List.length_drop, List.length_take] at c13b0D
                      clear c13
                      have H' := Aside0.mk H
                      clear H
                      have p104 : 0 ≤ (x20_2 : Int) := of_decide_eq_true (by first | (with_reducible assumption) | assumption)
                      have q104 : x20_2 < (((l0.take 8).drop 4).length : Int) := of_decide_eq_true (by first | (with_reducible assumption) | assumption)
                      obtain ⟨ad104, e104, hx104_0⟩ := Kd.at_int HR103.out x20_2 p104 q104
                      cases e104
                      replace hx104_0 := (HB.out.cell (World.block_lt_of_cell? w _ hx104_0)).trans hx104_0
                      replace p104 := eq_true p104
                      have p104D := p104; try simp only [List.length_drop, List.length_take] at p104D
                      replace q104 := eq_true q104
                      have q104D := q104; try simp only [List.length_drop, List.length_take] at q104D
                      go_wp2
                      go_roundg k2
                      case measure => have := HJ1.out; have := HK2.out; omega
                      case rel => exact ⟨(Go.bits .or .u32 ((x4_2 * 256) % 4294967296) ((rd ((l0.take 8).drop 4) x20_2) % 4294967296)), (wrap64 (x20_2 + 1)), (by first | rfl | (simp; done) | (simp [*]; done)), (by first | rfl | (simp; done) | (simp [*]; done)), H', ⟨by have := HJ1.out; have := HK2.out; omega⟩, ⟨by (with_reducible repeat (first | refine blk_drewN ?_ _ | refine blk_drew ?_ | refine blk_alloc ?_ _)); exact BK101.out⟩, ⟨by repeat (first | (with_reducible first | exact HB.out | apply below_alloc | apply pw_below_drewN | apply below_drew1 | refine below_set ?_ GE101.out) | exact HB.out)⟩⟩
                    · rw [if_neg c13] at H
                      exact absurd H (by simp)
                  · rw [if_neg c12] at H
                    exact absurd H (by simp)
                · rw [if_neg c11] at H
                  have c11b0 : decide (x20_2 < (((l0.take 8).drop 4).length : Int)) = false := decide_eq_false c11
                  have c11b0D := c11b0; try simp only [List.length_drop, List.length_take] at c11b0D
                  clear c11
                  by_cases c14 : 0 < (l0.length : Int)
                  · rw [if_pos c14] at H
                    have c14b0 : decide (0 < (l0.length : Int)) = true := decide_eq_true c14
                    have c14b1 : decide (0 < l0.length) = true := decide_eq_true (by omega)
                    clear c14
                    by_cases c15 : 2 < (l0.length : Int)
                    · rw [if_pos c15] at H
                      have c15b0 : decide (2 < (l0.length : Int)) = true := decide_eq_true c15
                      have c15b1 : decide (2 < l0.length) = true := decide_eq_true (by omega)
                      clear c15
                      by_cases c16 : 3 < (l0.length : Int)
                      · rw [if_pos c16] at H
                        have c16b0 : decide (3 < (l0.length : Int)) = true := decide_eq_true c16
                        have c16b1 : decide (3 < l0.length) = true := decide_eq_true (by omega)
                        clear c16
                        simp only [Option.some.injEq, Prod.mk.injEq] at H
                        obtain ⟨rfl, rfl, rfl, rfl⟩ := H
                        try go_wp2
                        have n0_ := Aside0.mk (blk_drew BK101.out)
                        have n1_ := Aside0.mk (below_drew1 HB.out)
                        clear BK101
                        clear HB
                        have BK101 := n0_
                        have HB := n1_
                        clear n0_ n1_
                        have p105 : 0 ≤ (0 : Int) := (by omega)
                        have q105 : 0 < (l0.length : Int) := of_decide_eq_true (by first | (with_reducible assumption) | assumption)
                        obtain ⟨ad105, e105, hx105_0⟩ := Kd.at_int HR0.out 0 p105 q105
                        have hw105_0 := hx105_0
                        (try rw [show ((0 : Int)).toNat = 0 from rfl] at hw105_0)
                        (try rw [show 0 * 1 = 0 from rfl] at hw105_0)
                        (try rw [Addr.add_zero'] at hw105_0)
                        cases e105
                        have qi105 : (0 < l0.length) = True := eq_true (by omega)
                        (try rw [show ((0 : Int)).toNat = 0 from rfl] at hx105_0)
                        (try rw [Addr.add_zero'] at hx105_0)
                        replace hx105_0 := (HB.out.cell (World.block_lt_of_cell? w _ hx105_0)).trans hx105_0
                        replace p105 := eq_true p105
                        have p105D := p105; try simp only [List.length_drop, List.length_take] at p105D
                        replace q105 := eq_true q105
                        have q105D := q105; try simp only [List.length_drop, List.length_take] at q105D
                        have p106 : 0 ≤ (2 : Int) := (by omega)
                        have q106 : 2 < (l0.length : Int) := of_decide_eq_true (by first | (with_reducible assumption) | assumption)
                        obtain ⟨ad106, e106, hx106_0⟩ := Kd.at_int HR0.out 2 p106 q106
                        have hw106_0 := hx106_0
                        (try rw [show ((2 : Int)).toNat = 2 from rfl] at hw106_0)
                        (try rw [show 2 * 1 = 2 from rfl] at hw106_0)
                        (try simp only [Nat.reduceMul, Nat.reduceEqDiff, Go.Addr.add, ↓reduceIte] at hw106_0)
                        obtain rfl : ad105 = ad106 := (by injection e106)
                        (try simp only [show (2 : Int).toNat = 2 from rfl, Nat.reduceMul, Nat.reduceEqDiff, Go.Addr.add, ↓reduceIte] at hx106_0)
                        have qi106 : (2 < l0.length) = True := eq_true (by omega)
                        (try rw [show ((2 : Int)).toNat = 2 from rfl] at hx106_0)
                        replace hx106_0 := (HB.out.cell (World.block_lt_of_cell? w _ hx106_0)).trans hx106_0
                        replace p106 := eq_true p106
                        have p106D := p106; try simp only [List.length_drop, List.length_take] at p106D
                        replace q106 := eq_true q106
                        have q106D := q106; try simp only [List.length_drop, List.length_take] at q106D
                        have p107 : 0 ≤ (3 : Int) := (by omega)
                        have q107 : 3 < (l0.length : Int) := of_decide_eq_true (by first | (with_reducible assumption) | assumption)
                        obtain ⟨ad107, e107, hx107_0⟩ := Kd.at_int HR0.out 3 p107 q107
                        have hw107_0 := hx107_0
                        (try rw [show ((3 : Int)).toNat = 3 from rfl] at hw107_0)
                        (try rw [show 3 * 1 = 3 from rfl] at hw107_0)
                        (try simp only [Nat.reduceMul, Nat.reduceEqDiff, Go.Addr.add, ↓reduceIte] at hw107_0)
                        obtain rfl : ad105 = ad107 := (by injection e107)
                        (try simp only [show (3 : Int).toNat = 3 from rfl, Nat.reduceMul, Nat.reduceEqDiff, Go.Addr.add, ↓reduceIte] at hx107_0)
                        have qi107 : (3 < l0.length) = True := eq_true (by omega)
                        (try rw [show ((3 : Int)).toNat = 3 from rfl] at hx107_0)
                        replace hx107_0 := (HB.out.cell (World.block_lt_of_cell? w _ hx107_0)).trans hx107_0
                        replace p107 := eq_true p107
                        have p107D := p107; try simp only [List.length_drop, List.length_take] at p107D
                        replace q107 := eq_true q107
                        have q107D := q107; try simp only [List.length_drop, List.length_take] at q107D
                        refine start_ (n := 17) (S := fun w' => w'.cell? ad105 = some (.int .u8 (rd l0 0)) ∧ w'.cell? ⟨ad105.block, ad105.off + 2, none⟩ = some (.int .u8 (rd l0 2)) ∧ w'.cell? ⟨ad105.block, ad105.off + 3, none⟩ = some (.int .u8 (rd l0 3))) (ds := []) #[false, false, false, false, false, false, false, false, false, false, false, false, false, false, false, false, false] (by kernel_rfl) rfl rfl ⟨((HB.out.cell (World.block_lt_of_cell? w _ hw105_0)).trans hw105_0), ((HB.out.cell (World.block_lt_of_cell? w _ hw106_0)).trans hw106_0), ((HB.out.cell (World.block_lt_of_cell? w _ hw107_0)).trans hw107_0)⟩ (fun hHeld => ?_); refine with_tabW disk_Get.tab9 disk_Get.bits9 (fun HT_ HW_ => ?_)
                        generalize wr.drew = w17 at BK101 HB hx105_0 hx106_0 hx107_0 hHeld ⊢
                        refine pure_ (i := 0) (N := some 30) (v := ?_) (a' := ?_) #[true, false, false, false, false, false, false, false, false, false, false, false, false, false, false, false, false] rfl rfl (any_of HT_.out (by kernel_rfl)) (fun _ _ _ h => h) (Or.inl ⟨by rfl, ?_⟩) ?_ ?_
                        rotate_left
                        · intro w'
                          go_simp
                          with_reducible rfl
                        rotate_left
                        · simp only [Act.put, List.setIfInBounds_toArray, List.set_cons_zero, List.set_cons_succ, i64_w, i32_w]
                          rfl
                        refine pure_ (i := 1) (N := some 31) (v := ?_) (a' := ?_) #[true, true, false, false, false, false, false, false, false, false, false, false, false, false, false, false, false] rfl rfl (any_of HT_.out (by kernel_rfl)) (fun _ _ _ h => h) (Or.inl ⟨by rfl, ?_⟩) ?_ ?_
                        rotate_left
                        · intro w'
                          go_simp
                          with_reducible rfl
                        rotate_left
                        · simp only [Act.put, List.setIfInBounds_toArray, List.set_cons_zero, List.set_cons_succ, i64_w, i32_w]
                          rfl
                        refine pure_ (i := 3) (N := some 33) (v := ?_) (a' := ?_) #[true, true, false, true, false, false, false, false, false, false, false, false, false, false, false, false, false] rfl rfl (any_of HT_.out (by kernel_rfl)) (fun _ _ _ h => h) (Or.inl ⟨by rfl, ?_⟩) ?_ ?_
                        rotate_left
                        · intro w'
                          go_simp
                          with_reducible rfl
                        rotate_left
                        · simp only [Act.put, List.setIfInBounds_toArray, List.set_cons_zero, List.set_cons_succ, i64_w, i32_w]
                          rfl
                        refine pure_ (i := 4) (N := some 34) (v := ?_) (a' := ?_) #[true, true, false, true, true, false, false, false, false, false, false, false, false, false, false, false, false] rfl rfl (any_of HT_.out (by kernel_rfl)) (fun _ _ _ h => h) (Or.inl ⟨by rfl, ?_⟩) ?_ ?_
                        rotate_left
                        · intro w'
                          go_simp
                          with_reducible rfl
                        rotate_left
                        · simp only [Act.put, List.setIfInBounds_toArray, List.set_cons_zero, List.set_cons_succ, i64_w, i32_w]
                          rfl
                        refine pure_ (i := 8) (N := some 38) (v := ?_) (a' := ?_) #[true, true, false, true, true, false, false, false, true, false, false, false, false, false, false, false, false] rfl rfl (any_of HT_.out (by kernel_rfl)) (fun _ _ _ h => h) (Or.inl ⟨by rfl, ?_⟩) ?_ ?_
                        rotate_left
                        · intro w'
                          go_simp
                          with_reducible rfl
                        rotate_left
                        · simp only [Act.put, List.setIfInBounds_toArray, List.set_cons_zero, List.set_cons_succ, i64_w, i32_w]
                          rfl
                        refine pure_ (i := 9) (N := some 39) (v := ?_) (a' := ?_) #[true, true, false, true, true, false, false, false, true, true, false, false, false, false, false, false, false] rfl rfl (any_of HT_.out (by kernel_rfl)) (fun _ _ _ h => h) (Or.inl ⟨by rfl, ?_⟩) ?_ ?_
                        rotate_left
                        · intro w'
                          go_simp
                          with_reducible rfl
                        rotate_left
                        · simp only [Act.put, List.setIfInBounds_toArray, List.set_cons_zero, List.set_cons_succ, i64_w, i32_w]
                          rfl
                        refine pure_ (i := 13) (N := some 43) (v := ?_) (a' := ?_) #[true, true, false, true, true, false, false, false, true, true, false, false, false, true, false, false, false] rfl rfl (any_of HT_.out (by kernel_rfl)) (fun _ _ _ h => h) (Or.inl ⟨by rfl, ?_⟩) ?_ ?_
                        rotate_left
                        · intro w'
                          go_simp
                          with_reducible rfl
                        rotate_left
                        · simp only [Act.put, List.setIfInBounds_toArray, List.set_cons_zero, List.set_cons_succ, i64_w, i32_w]
                          rfl
                        refine take_ (i := 2) (N := some 32) (v := ?_) (a' := ?_) #[true, true, true, true, true, false, false, false, true, true, false, false, false, true, false, false, false] rfl rfl (take_ofW HT_.out HW_.out (by kernel_rfl)) (fun _ _ _ h => h) (Or.inl ⟨by rfl, ?_⟩) hHeld ?_ ?_
                        rotate_left
                        · rintro w' ⟨s0, s1, s2⟩
                          go_simp
                          with_reducible rfl
                        rotate_left
                        · simp only [Act.put, List.setIfInBounds_toArray, List.set_cons_zero, List.set_cons_succ, i64_w, i32_w]
                          rfl
                        refine take_ (i := 5) (N := some 35) (v := ?_) (a' := ?_) #[true, true, true, true, true, true, false, false, true, true, false, false, false, true, false, false, false] rfl rfl (take_ofW HT_.out HW_.out (by kernel_rfl)) (fun _ _ _ h => h) (Or.inl ⟨by rfl, ?_⟩) hHeld ?_ ?_
                        rotate_left
                        · rintro w' ⟨s0, s1, s2⟩
                          go_simp
                          with_reducible rfl
                        rotate_left
                        · simp only [Act.put, List.setIfInBounds_toArray, List.set_cons_zero, List.set_cons_succ, i64_w, i32_w]
                          rfl
                        refine pure_ (i := 6) (N := some 36) (v := ?_) (a' := ?_) #[true, true, true, true, true, true, true, false, true, true, false, false, false, true, false, false, false] rfl rfl (any_of HT_.out (by kernel_rfl)) (fun _ _ _ h => h) (Or.inl ⟨by rfl, ?_⟩) ?_ ?_
                        rotate_left
                        · intro w'
                          go_simp
                          with_reducible rfl
                        rotate_left
                        · simp only [Act.put, List.setIfInBounds_toArray, List.set_cons_zero, List.set_cons_succ, i64_w, i32_w]
                          rfl
                        refine pure_ (i := 7) (N := some 37) (v := ?_) (a' := ?_) #[true, true, true, true, true, true, true, true, true, true, false, false, false, true, false, false, false] rfl rfl (any_of HT_.out (by kernel_rfl)) (fun _ _ _ h => h) (Or.inl ⟨by rfl, ?_⟩) ?_ ?_
                        rotate_left
                        · intro w'
                          go_simp
                          with_reducible rfl
                        rotate_left
                        · simp only [Act.put, List.setIfInBounds_toArray, List.set_cons_zero, List.set_cons_succ, i64_w, i32_w]
                          rfl
                        refine take_ (i := 10) (N := some 40) (v := ?_) (a' := ?_) #[true, true, true, true, true, true, true, true, true, true, true, false, false, true, false, false, false] rfl rfl (take_ofW HT_.out HW_.out (by kernel_rfl)) (fun _ _ _ h => h) (Or.inl ⟨by rfl, ?_⟩) hHeld ?_ ?_
                        rotate_left
                        · rintro w' ⟨s0, s1, s2⟩
                          go_simp
                          with_reducible rfl
                        rotate_left
                        · simp only [Act.put, List.setIfInBounds_toArray, List.set_cons_zero, List.set_cons_succ, i64_w, i32_w]
                          rfl
                        refine pure_ (i := 11) (N := some 41) (v := ?_) (a' := ?_) #[true, true, true, true, true, true, true, true, true, true, true, true, false, true, false, false, false] rfl rfl (any_of HT_.out (by kernel_rfl)) (fun _ _ _ h => h) (Or.inl ⟨by rfl, ?_⟩) ?_ ?_
                        rotate_left
                        · intro w'
                          go_simp
                          with_reducible rfl
                        rotate_left
                        · simp only [Act.put, List.setIfInBounds_toArray, List.set_cons_zero, List.set_cons_succ, i64_w, i32_w]
                          rfl
                        refine pure_ (i := 12) (N := some 42) (v := ?_) (a' := ?_) #[true, true, true, true, true, true, true, true, true, true, true, true, true, true, false, false, false] rfl rfl (any_of HT_.out (by kernel_rfl)) (fun _ _ _ h => h) (Or.inl ⟨by rfl, ?_⟩) ?_ ?_
                        rotate_left
                        · intro w'
                          go_simp
                          with_reducible rfl
                        rotate_left
                        · simp only [Act.put, List.setIfInBounds_toArray, List.set_cons_zero, List.set_cons_succ, i64_w, i32_w]
                          rfl
                        refine pure_ (i := 14) (N := some 44) (v := ?_) (a' := ?_) #[true, true, true, true, true, true, true, true, true, true, true, true, true, true, true, false, false] rfl rfl (any_of HT_.out (by kernel_rfl)) (fun _ _ _ h => h) (Or.inl ⟨by rfl, ?_⟩) ?_ ?_
                        rotate_left
                        · intro w'
                          go_simp
                          with_reducible rfl
                        rotate_left
                        · simp only [Act.put, List.setIfInBounds_toArray, List.set_cons_zero, List.set_cons_succ, i64_w, i32_w]
                          rfl
                        refine one_ (i := 15) (N := none) #[true, true, true, true, true, true, true, true, true, true, true, true, true, true, true, true, false] rfl rfl (one_of HT_.out (by kernel_rfl)) (by decide) (fun K hK => ?_)
                        have hs18 : w17.cell? ⟨gb101, 0, none⟩ = some (.int .u8 0) := (blk_cell BK101.out 0).trans rfl
                        have hfs18 := blk_frozen BK101.out 0
                        have hs19 : w17.cell? ⟨gb101, 1, none⟩ = some (.int .u16 0) := (blk_cell BK101.out 1).trans rfl
                        have hfs19 := blk_frozen BK101.out 1
                        have hs20 : w17.cell? ⟨gb101, 2, none⟩ = some (.int .u32 0) := (blk_cell BK101.out 2).trans rfl
                        have hfs20 := blk_frozen BK101.out 2
                        refine skip_ (w1 := ?_) (by rfl) rfl ?_ ?_
                        rotate_left
                        · go_simp
                          rfl
                        refine hK.out _ _ ⟨((cell_far (p := ⟨gb101, _, none⟩) (by first | exact Nat.ne_of_lt (Nat.lt_of_lt_of_le (by have := World.block_lt_of_cell? _ _ hw105_0; first | rwa [add_block] at this | exact this) GW101.out) | (rw [add_block]; exact Nat.ne_of_lt (Nat.lt_of_lt_of_le (by have := World.block_lt_of_cell? _ _ hw105_0; first | rwa [add_block] at this | exact this) GW101.out)) | (show (Addr.add _ _).block ≠ _; rw [add_block]; exact Nat.ne_of_lt (Nat.lt_of_lt_of_le (by have := World.block_lt_of_cell? _ _ hw105_0; first | rwa [add_block] at this | exact this) GW101.out)) | (dsimp only; exact Nat.ne_of_lt (Nat.lt_of_lt_of_le (by have := World.block_lt_of_cell? _ _ hw105_0; first | rwa [add_block] at this | exact this) GW101.out))) _).trans (((cell_far (p := ⟨gb101, _, none⟩) (by first | exact Nat.ne_of_lt (Nat.lt_of_lt_of_le (by have := World.block_lt_of_cell? _ _ hw105_0; first | rwa [add_block] at this | exact this) GW101.out) | (rw [add_block]; exact Nat.ne_of_lt (Nat.lt_of_lt_of_le (by have := World.block_lt_of_cell? _ _ hw105_0; first | rwa [add_block] at this | exact this) GW101.out)) | (show (Addr.add _ _).block ≠ _; rw [add_block]; exact Nat.ne_of_lt (Nat.lt_of_lt_of_le (by have := World.block_lt_of_cell? _ _ hw105_0; first | rwa [add_block] at this | exact this) GW101.out)) | (dsimp only; exact Nat.ne_of_lt (Nat.lt_of_lt_of_le (by have := World.block_lt_of_cell? _ _ hw105_0; first | rwa [add_block] at this | exact this) GW101.out))) _).trans (((cell_far (p := ⟨gb101, _, none⟩) (by first | exact Nat.ne_of_lt (Nat.lt_of_lt_of_le (by have := World.block_lt_of_cell? _ _ hw105_0; first | rwa [add_block] at this | exact this) GW101.out) | (rw [add_block]; exact Nat.ne_of_lt (Nat.lt_of_lt_of_le (by have := World.block_lt_of_cell? _ _ hw105_0; first | rwa [add_block] at this | exact this) GW101.out)) | (show (Addr.add _ _).block ≠ _; rw [add_block]; exact Nat.ne_of_lt (Nat.lt_of_lt_of_le (by have := World.block_lt_of_cell? _ _ hw105_0; first | rwa [add_block] at this | exact this) GW101.out)) | (dsimp only; exact Nat.ne_of_lt (Nat.lt_of_lt_of_le (by have := World.block_lt_of_cell? _ _ hw105_0; first | rwa [add_block] at this | exact this) GW101.out))) _).trans (hHeld.1)))))), ((cell_far (p := ⟨gb101, _, none⟩) (by first | exact Nat.ne_of_lt (Nat.lt_of_lt_of_le (by have := World.block_lt_of_cell? _ _ hw106_0; first | rwa [add_block] at this | exact this) GW101.out) | (rw [add_block]; exact Nat.ne_of_lt (Nat.lt_of_lt_of_le (by have := World.block_lt_of_cell? _ _ hw106_0; first | rwa [add_block] at this | exact this) GW101.out)) | (show (Addr.add _ _).block ≠ _; rw [add_block]; exact Nat.ne_of_lt (Nat.lt_of_lt_of_le (by have := World.block_lt_of_cell? _ _ hw106_0; first | rwa [add_block] at this | exact this) GW101.out)) | (dsimp only; exact Nat.ne_of_lt (Nat.lt_of_lt_of_le (by have := World.block_lt_of_cell? _ _ hw106_0; first | rwa [add_block] at this | exact this) GW101.out))) _).trans (((cell_far (p := ⟨gb101, _, none⟩) (by first | exact Nat.ne_of_lt (Nat.lt_of_lt_of_le (by have := World.block_lt_of_cell? _ _ hw106_0; first | rwa [add_block] at this | exact this) GW101.out) | (rw [add_block]; exact Nat.ne_of_lt (Nat.lt_of_lt_of_le (by have := World.block_lt_of_cell? _ _ hw106_0; first | rwa [add_block] at this | exact this) GW101.out)) | (show (Addr.add _ _).block ≠ _; rw [add_block]; exact Nat.ne_of_lt (Nat.lt_of_lt_of_le (by have := World.block_lt_of_cell? _ _ hw106_0; first | rwa [add_block] at this | exact this) GW101.out)) | (dsimp only; exact Nat.ne_of_lt (Nat.lt_of_lt_of_le (by have := World.block_lt_of_cell? _ _ hw106_0; first | rwa [add_block] at this | exact this) GW101.out))) _).trans (((cell_far (p := ⟨gb101, _, none⟩) (by first | exact Nat.ne_of_lt (Nat.lt_of_lt_of_le (by have := World.block_lt_of_cell? _ _ hw106_0; first | rwa [add_block] at this | exact this) GW101.out) | (rw [add_block]; exact Nat.ne_of_lt (Nat.lt_of_lt_of_le (by have := World.block_lt_of_cell? _ _ hw106_0; first | rwa [add_block] at this | exact this) GW101.out)) | (show (Addr.add _ _).block ≠ _; rw [add_block]; exact Nat.ne_of_lt (Nat.lt_of_lt_of_le (by have := World.block_lt_of_cell? _ _ hw106_0; first | rwa [add_block] at this | exact this) GW101.out)) | (dsimp only; exact Nat.ne_of_lt (Nat.lt_of_lt_of_le (by have := World.block_lt_of_cell? _ _ hw106_0; first | rwa [add_block] at this | exact this) GW101.out))) _).trans (hHeld.2.1)))))), ((cell_far (p := ⟨gb101, _, none⟩) (by first | exact Nat.ne_of_lt (Nat.lt_of_lt_of_le (by have := World.block_lt_of_cell? _ _ hw107_0; first | rwa [add_block] at this | exact this) GW101.out) | (rw [add_block]; exact Nat.ne_of_lt (Nat.lt_of_lt_of_le (by have := World.block_lt_of_cell? _ _ hw107_0; first | rwa [add_block] at this | exact this) GW101.out)) | (show (Addr.add _ _).block ≠ _; rw [add_block]; exact Nat.ne_of_lt (Nat.lt_of_lt_of_le (by have := World.block_lt_of_cell? _ _ hw107_0; first | rwa [add_block] at this | exact this) GW101.out)) | (dsimp only; exact Nat.ne_of_lt (Nat.lt_of_lt_of_le (by have := World.block_lt_of_cell? _ _ hw107_0; first | rwa [add_block] at this | exact this) GW101.out))) _).trans (((cell_far (p := ⟨gb101, _, none⟩) (by first | exact Nat.ne_of_lt (Nat.lt_of_lt_of_le (by have := World.block_lt_of_cell? _ _ hw107_0; first | rwa [add_block] at this | exact this) GW101.out) | (rw [add_block]; exact Nat.ne_of_lt (Nat.lt_of_lt_of_le (by have := World.block_lt_of_cell? _ _ hw107_0; first | rwa [add_block] at this | exact this) GW101.out)) | (show (Addr.add _ _).block ≠ _; rw [add_block]; exact Nat.ne_of_lt (Nat.lt_of_lt_of_le (by have := World.block_lt_of_cell? _ _ hw107_0; first | rwa [add_block] at this | exact this) GW101.out)) | (dsimp only; exact Nat.ne_of_lt (Nat.lt_of_lt_of_le (by have := World.block_lt_of_cell? _ _ hw107_0; first | rwa [add_block] at this | exact this) GW101.out))) _).trans (((cell_far (p := ⟨gb101, _, none⟩) (by first | exact Nat.ne_of_lt (Nat.lt_of_lt_of_le (by have := World.block_lt_of_cell? _ _ hw107_0; first | rwa [add_block] at this | exact this) GW101.out) | (rw [add_block]; exact Nat.ne_of_lt (Nat.lt_of_lt_of_le (by have := World.block_lt_of_cell? _ _ hw107_0; first | rwa [add_block] at this | exact this) GW101.out)) | (show (Addr.add _ _).block ≠ _; rw [add_block]; exact Nat.ne_of_lt (Nat.lt_of_lt_of_le (by have := World.block_lt_of_cell? _ _ hw107_0; first | rwa [add_block] at this | exact this) GW101.out)) | (dsimp only; exact Nat.ne_of_lt (Nat.lt_of_lt_of_le (by have := World.block_lt_of_cell? _ _ hw107_0; first | rwa [add_block] at this | exact this) GW101.out))) _).trans (hHeld.2.2))))))⟩ (fun hHeld => ?_)
                        clear hK K
                        refine pure_ (i := 16) (N := some 3) (v := ?_) (a' := ?_) #[true, true, true, true, true, true, true, true, true, true, true, true, true, true, true, true, true] rfl rfl (any_of HT_.out (by kernel_rfl)) (fun _ _ _ h => h) (Or.inl ⟨by rfl, ?_⟩) ?_ ?_
                        rotate_left
                        · intro w'
                          go_simp
                          with_reducible rfl
                        rotate_left
                        · simp only [Act.put, List.setIfInBounds_toArray, List.set_cons_zero, List.set_cons_succ, i64_w, i32_w]
                          rfl
                        refine done_ (done_of HT_.out (by kernel_rfl)) ?_
                        try go_wp2
                        refine bodyPost_ret (results_ct rfl _ _ gb101 25 #[.int .u8 (rd l0 0), .int .u16 (Go.bits .or .u16 (IntKind.u16.wrap ((IntKind.u16.wrap (rd l0 2)) * 256)) (IntKind.u16.wrap (rd l0 3))), .int .u32 x4_2] (0, 0) _ rfl (by (with_reducible repeat (first | refine blk_drewN ?_ _ | refine blk_drew ?_ | refine blk_alloc ?_ _)); refine blk_put (cs := #[.int .u8 (rd l0 0), .int .u16 (Go.bits .or .u16 (IntKind.u16.wrap ((IntKind.u16.wrap (rd l0 2)) * 256)) (IntKind.u16.wrap (rd l0 3))), .int .u32 0]) ?_ 2 _ rfl; (with_reducible repeat (first | refine blk_drewN ?_ _ | refine blk_drew ?_ | refine blk_alloc ?_ _)); refine blk_put (cs := #[.int .u8 (rd l0 0), .int .u16 0, .int .u32 0]) ?_ 1 _ rfl; (with_reducible repeat (first | refine blk_drewN ?_ _ | refine blk_drew ?_ | refine blk_alloc ?_ _)); refine blk_put (cs := #[.int .u8 0, .int .u16 0, .int .u32 0]) ?_ 0 _ rfl; (with_reducible repeat (first | refine blk_drewN ?_ _ | refine blk_drew ?_ | refine blk_alloc ?_ _)); exact BK101.out) Try.underlying25 rfl (by kernel_rfl)) rfl ?_
                        exact ⟨by first | rfl | (simp [errW_none, errW_some] <;> rfl) | (simp [*, errW_none, errW_some] <;> rfl), by repeat (first | (with_reducible first | exact HB.out | apply below_alloc | apply pw_below_drewN | apply below_drew1 | refine below_set ?_ GE101.out) | exact HB.out)⟩
                      · rw [if_neg c16] at H
                        exact absurd H (by simp)
                    · rw [if_neg c15] at H
                      exact absurd H (by simp)
                  · rw [if_neg c14] at H
                    exact absurd H (by simp)
          · rw [if_neg c9] at H
            exact absurd H (by simp)
        · rw [if_neg c8] at H
          exact absurd H (by simp)

/-! ### rowlockref06_Number: function 60 -/
def rowlockref06_Number.l0 : Nat → Int → Int → ByteArray → Int → Option (ByteArray)
  | 0, _, _, _, _ => none
  | k + 1, x0, x1, x5, x6 => if x6 < x1 then ((some (([(Int.tmod x0 256) % 256] : List Int) : List Int)).bind fun y108 => (if (strOfNums y108).size + x5.size ≤ 9223372036854775807 then (rowlockref06_Number.l0 k (IntKind.u64.wrap (Int.tdiv x0 256)) x1 ((strOfNums y108) ++ x5) (wrap64 (x6 + 1))) else (none))) else (some x5)
def rowlockref06_Number.f (k : Nat) (a0 : Int) (a1 : Int) : Option (ByteArray) := rowlockref06_Number.l0 k a0 a1 (⟨#[]⟩ : ByteArray) 0
theorem rowlockref06_Number.mono_l : ∀ k, (∀ y0 y1 y2 y3, LeO (rowlockref06_Number.l0 k y0 y1 y2 y3) (rowlockref06_Number.l0 (k + 1) y0 y1 y2 y3))
  | 0 => fun _ _ _ _ r h => by simp [rowlockref06_Number.l0] at h
  | k + 1 => by
    have ih0 := rowlockref06_Number.mono_l k
    · intro y0 y1 y2 y3
      unfold rowlockref06_Number.l0
      repeat' first
      | (with_reducible exact ih0 _ _ _ _)
      | (with_reducible exact LeO.refl _)
      | (with_reducible exact LeO.none _)
      | (with_reducible refine LeO.ite ?_ ?_)
      | (with_reducible refine LeO.bind ?_ (fun _ => ?_))
      | exact ih0 _ _ _ _
      | exact LeO.none _
      | refine LeO.ite ?_ ?_
      | refine LeO.bind ?_ (fun _ => ?_)
theorem rowlockref06_Number.mono : ∀ a0 a1 k, LeO (rowlockref06_Number.f k a0 a1) (rowlockref06_Number.f (k + 1) a0 a1) := by
  intro a0 a1 k
  have ih0 := rowlockref06_Number.mono_l k
  unfold rowlockref06_Number.f
  repeat' first
      | (with_reducible exact ih0 _ _ _ _)
      | (with_reducible exact LeO.refl _)
      | (with_reducible exact LeO.none _)
      | (with_reducible refine LeO.ite ?_ ?_)
      | (with_reducible refine LeO.bind ?_ (fun _ => ?_))
      | exact ih0 _ _ _ _
      | exact LeO.none _
      | refine LeO.ite ?_ ?_
      | refine LeO.bind ?_ (fun _ => ?_)
set_option maxHeartbeats 8000000 in
set_option maxRecDepth 100000 in
theorem rowlockref06_Number.calls (k : Nat) (a0 : Int) (a1 : Int) (r : ByteArray) (w : World) (h : rowlockref06_Number.f k a0 a1 = some r) :
    Calls Try.prog 60 #[.int .u64 a0, .int .i64 a1] w fun e w' => e = .returned (.string r) ∧ Below w.heap.size w w' := by
  have HB := Aside0.mk (Below.refl w.heap.size w)
  have H : (rowlockref06_Number.l0 k a0 a1 (⟨#[]⟩ : ByteArray) 0) = some r := h
  clear h
  have H' := Aside0.mk H
  clear H
  go_enter Try.func60, Try.ntmps60
  go_wp2
  go_loopg [0, 5, 6] k (fun kq v0 v5 v6 w' => ∃ (x0_1 : Int) (x5_1 : ByteArray) (x6_1 : Int), v0 = .int .u64 x0_1 ∧ v5 = .string x5_1 ∧ v6 = .int .i64 x6_1 ∧ Aside0 (rowlockref06_Number.l0 kq x0_1 a1 x5_1 x6_1 = some r) ∧ Aside0 (kq ≤ k) ∧ Aside0 (Below w.heap.size w w'))
  case atStart => exact ⟨(a0), ((⟨#[]⟩ : ByteArray)), (0), (by first | rfl | (simp; done) | (simp [*]; done)), (by first | rfl | (simp; done) | (simp [*]; done)), (by first | rfl | (simp; done) | (simp [*]; done)), H', ⟨Nat.le_refl _⟩, ⟨by repeat (first | (with_reducible first | exact HB.out | apply below_alloc | apply pw_below_drewN | apply below_drew1) | exact HB.out)⟩⟩
  case round =>
    clear H'
    try clear p2
    obtain ⟨x0_1, x5_1, x6_1, rfl, rfl, rfl, HA, HK1, HB⟩ := hrel
    cases gk with
    | zero => exact absurd HA.out (by simp [rowlockref06_Number.l0])
    | succ k1 =>
      have H := HA.out
      clear HA
      simp only [rowlockref06_Number.l0] at H
      by_cases c3 : x6_1 < a1
      · rw [if_pos c3] at H
        have c3b0 : decide (x6_1 < a1) = true := decide_eq_true c3
        clear c3
        obtain ⟨y108, hy108⟩ : ∃ y_ : List Int, y_ = (([(Int.tmod x0_1 256) % 256] : List Int)) := ⟨_, rfl⟩
        replace H : (if (strOfNums y108).size + x5_1.size ≤ 9223372036854775807 then (rowlockref06_Number.l0 k1 (IntKind.u64.wrap (Int.tdiv x0_1 256)) a1 ((strOfNums y108) ++ x5_1) (wrap64 (x6_1 + 1))) else (none)) = some r := by first | (rw [hy108]; with_reducible exact H) | (have H2_ := (Option.bind_some _ _).symm.trans H; rw [hy108]; with_reducible exact H2_) | (have H2_ := (Option.bind_some _ _).symm.trans H; with_reducible exact H2_) | with_reducible exact H | (rw [hy108]; exact H) | exact H
        have Ny108 := Aside0.mk hy108
        clear hy108
        by_cases c4 : (strOfNums y108).size + x5_1.size ≤ 9223372036854775807
        · rw [if_pos c4] at H
          have c4b0 := eq_true c4
          have c4b1 : decide ((strOfNums y108).size + x5_1.size ≤ 9223372036854775807) = true := decide_eq_true c4
          try have c4b2 : (9223372036854775807 < (strOfNums y108).size + x5_1.size) = False := eq_false (Nat.not_lt.2 c4)
          have H' := Aside0.mk H
          clear H
          go_wp2_with (first | ((with_reducible refine gate_dst (N := 15) rfl ?_); refine Kd.R_lit (Kd.int .u8) _ 5 ?hg (N := 15) ?hd (xs := ([(Int.tmod x0_1 256) % 256] : List Int)) (inner := [.int .u8 ((Int.tmod x0_1 256) % 256)]) (ok := fun _ => True) (okp := fun _ => True) ?hr ?hp (fun _ hk => hk) trivial (Below.refl _ _) (Nat.le_refl _) (by simp) ?_; (case hd => rfl); (case hg => rfl); (case hr => first | (go_simp; done) | (go_simp; rfl)); (case hp => exact (Reps.one (show Kd.M (Kd.int .u8) _ _ _ ((Int.tmod x0_1 256) % 256) [.int .u8 ((Int.tmod x0_1 256) % 256)] from rfl) (Reps.none _ _))); intro v109 w5 ho6 hb hg_ hnew_; clear hg_ hnew_; (first | rw [← Ny108.out] at ho6 | (simp only [Int.reduceToNat] at ho6; rw [← Ny108.out] at ho6)); have n0_ := Aside0.mk (Kd.R_lower ho6 (below_size (by repeat (first | (with_reducible first | exact HB.out | apply below_alloc | apply pw_below_drewN | apply below_drew1) | exact HB.out)))); have n1_ := Aside0.mk (below_step (by repeat (first | (with_reducible first | exact HB.out | apply below_alloc | apply pw_below_drewN | apply below_drew1) | exact HB.out)) hb); clear HB; have HO110 := n0_; have HB := n1_; clear n0_ n1_; clear hb ho6; have hcv7 := own_string (P := Try.prog) Try.underlying26 Try.underlying5 Try.underlying9 (Kd.own_of_R HO110.out)))
          go_roundg k1
          case measure => have := HK1.out; omega
          case rel => exact ⟨(IntKind.u64.wrap (Int.tdiv x0_1 256)), ((strOfNums y108) ++ x5_1), (wrap64 (x6_1 + 1)), (by first | rfl | (simp; done) | (simp [*]; done)), (by first | rfl | (simp; done) | (simp [*]; done)), (by first | rfl | (simp; done) | (simp [*]; done)), H', ⟨by have := HK1.out; omega⟩, ⟨by repeat (first | (with_reducible first | exact HB.out | apply below_alloc | apply pw_below_drewN | apply below_drew1) | exact HB.out)⟩⟩
        · rw [if_neg c4] at H
          exact absurd H (by simp)
      · rw [if_neg c3] at H
        have c3b0 : decide (x6_1 < a1) = false := decide_eq_false c3
        clear c3
        obtain rfl := Option.some.inj H
        go_wp2
        go_ret
        exact ⟨by first | rfl | (simp [errW_none, errW_some] <;> rfl) | (simp [*, errW_none, errW_some] <;> rfl), by repeat (first | (with_reducible first | exact HB.out | apply below_alloc | apply pw_below_drewN | apply below_drew1) | exact HB.out)⟩

/-! ### rowlockref06_zeros: function 61 -/
def rowlockref06_zeros.f (a0 : Int) : Option (ByteArray) := if 0 ≤ a0 then (if (a0 : Int).toNat ≤ 281474976710656 then (some (strOfNums (List.replicate (a0 : Int).toNat 0))) else (none)) else (none)
set_option maxHeartbeats 8000000 in
set_option maxRecDepth 100000 in
theorem rowlockref06_zeros.calls (a0 : Int) (r : ByteArray) (w : World) (h : rowlockref06_zeros.f a0 = some r) :
    Calls Try.prog 61 #[.int .i64 a0] w fun e w' => e = .returned (.string r) ∧ Below w.heap.size w w' := by
  have HB := Aside0.mk (Below.refl w.heap.size w)
  have H : (if 0 ≤ a0 then (if (a0 : Int).toNat ≤ 281474976710656 then (some (strOfNums (List.replicate (a0 : Int).toNat 0))) else (none)) else (none)) = some r := h
  clear h
  by_cases c2 : 0 ≤ a0
  · rw [if_pos c2] at H
    have c2b0 := eq_true c2
    have c2b1 : decide (0 ≤ a0) = true := decide_eq_true c2
    clear c2
    by_cases c3 : (a0 : Int).toNat ≤ 281474976710656
    · rw [if_pos c3] at H
      have c3b0 := eq_true c3
      have c3b1 : decide ((a0 : Int).toNat ≤ 281474976710656) = true := decide_eq_true c3
      clear c3
      obtain ⟨y111, hy111⟩ : ∃ y_ : List Int, y_ = (List.replicate (a0 : Int).toNat 0) := ⟨_, rfl⟩
      replace H : (some (strOfNums y111)) = some r := by first | (rw [hy111]; with_reducible exact H) | (have H2_ := (Option.bind_some _ _).symm.trans H; rw [hy111]; with_reducible exact H2_) | (have H2_ := (Option.bind_some _ _).symm.trans H; with_reducible exact H2_) | with_reducible exact H | (rw [hy111]; exact H) | exact H
      have Ny111 := Aside0.mk hy111
      clear hy111
      obtain rfl := Option.some.inj H
      go_enter Try.func61, Try.ntmps61
      go_wp2_with (first | ((with_reducible refine gate_dst (N := 4) rfl ?_); refine Kd.R_make (Kd.int .u8) _ 5 rfl (N := 4) rfl 26 _ _ rfl a0 rfl rfl Try.underlying26 (.int .u8 0) 1 info5 rfl (by decide) (by omega) 0 (ok := fun _ => True) (okp := fun _ => True) rfl (fun _ hk => hk) trivial (of_decide_eq_true (by first | (with_reducible assumption) | assumption)) (Nat.le_trans (Nat.mul_le_mul_right _ (of_decide_eq_true (by first | (with_reducible assumption) | assumption) : a0.toNat ≤ 281474976710656)) (by omega)) (Below.refl _ _) (Nat.le_refl _) ?_; intro v112 w4 ho5 hb hg_ hnew_; clear hg_ hnew_; (first | rw [← Ny111.out] at ho5 | (simp only [Int.reduceToNat] at ho5; rw [← Ny111.out] at ho5)); have n0_ := Aside0.mk (Kd.R_lower ho5 (below_size (by repeat (first | (with_reducible first | exact HB.out | apply below_alloc | apply pw_below_drewN | apply below_drew1) | exact HB.out)))); have n1_ := Aside0.mk (below_step (by repeat (first | (with_reducible first | exact HB.out | apply below_alloc | apply pw_below_drewN | apply below_drew1) | exact HB.out)) hb); clear HB; have HO113 := n0_; have HB := n1_; clear n0_ n1_; clear hb ho5; have hcv6 := own_string (P := Try.prog) Try.underlying26 Try.underlying5 Try.underlying9 (Kd.own_of_R HO113.out)))
      go_ret
      exact ⟨by first | rfl | (simp [errW_none, errW_some] <;> rfl) | (simp [*, errW_none, errW_some] <;> rfl), by repeat (first | (with_reducible first | exact HB.out | apply below_alloc | apply pw_below_drewN | apply below_drew1) | exact HB.out)⟩
    · rw [if_neg c3] at H
      exact absurd H (by simp)
  · rw [if_neg c2] at H
    exact absurd H (by simp)

end Go.Proofs.Ytolgcohmmghehaa.XDiskHeads
