-- Written by this session's own program (wip/own_print.py) over the kit's print, with this session's hand-proved contracts in their places; Lean checks it.
import Derived.Test.YtpfegfkniilobaaXHeapx0
namespace Go.Proofs.Ytpfegfkniilobaa.XHeap
open Go.RowKit Go.Proofs.YtpfegfkniilobaaW.PrintWords Go.Proofs.YtpfegfkniilobaaW.PrintLast Go.Proofs.YtpfegfkniilobaaW.PrintMore
attribute [local go_sem] max2_int min2_int max_two min_two max_three min_three max_four min_four   -- for this text's walks alone
set_option linter.unusedVariables false
set_option linter.unusedSimpArgs false

/-! ### slices_Index_bool_bool: function 106 -/
-- NOT PRINTED: function 80 (disk_Disk_Take)

/-! ### disk_Get: function 93 -/
mutual
def disk_Get.j0 : Nat → List Int → Bool → Option (Int × Int × Int × Bool)
 | 0, _, _ => none
 | k + 1, x0, x15 => if x15 = true then (some (0, 0, 0, false)) else (if 4 ≤ 8 then (if 8 ≤ (x0.length : Int) then (disk_Get.l0 k x0 0 ((x0.take 8).drop 4) (((x0.take 8).drop 4).length : Int) 0) else (none)) else (none))
def disk_Get.l0 : Nat → List Int → Int → List Int → Int → Int → Option (Int × Int × Int × Bool)
 | 0, _, _, _, _, _ => none
 | k + 1, x0, x4, x18, x19, x20 => if x20 < x19 then (if 0 ≤ x20 then (if x20 < (x18.length : Int) then (disk_Get.l0 k x0 (Go.bits .or .u32 ((x4 * 256) % 4294967296) ((rd x18 x20) % 4294967296)) x18 x19 (wrap64 (x20 + 1))) else (none)) else (none)) else (if 0 < (x0.length : Int) then (if 2 < (x0.length : Int) then (if 3 < (x0.length : Int) then (some (rd x0 0, Go.bits .or .u16 (IntKind.u16.wrap ((IntKind.u16.wrap (rd x0 2)) * 256)) (IntKind.u16.wrap (rd x0 3)), x4, true)) else (none)) else (none)) else (none))
end
def disk_Get.f (k : Nat) (l0 : List Int) : Option (Int × Int × Int × Bool) := if (l0.length : Int) = 512 then (if 1 < (l0.length : Int) then (disk_Get.j0 k l0 ((rd l0 1) != 0)) else (none)) else (disk_Get.j0 k l0 true)
def disk_Get.T9 : Bool × List (List Nat × List Nat) := (true, [([], []), ([0], [0]), ([1], [1]), ([], []), ([3], [3]), ([4], [4]), ([5], [5]), ([6], [6]), ([], []), ([8], [8]), ([9], [9]), ([10], [10]), ([7, 11], [7, 11]), ([], []), ([2, 12, 13], [2, 12, 13]), ([14, 0, 1, 2, 3, 4, 5, 6, 7, 8, 9, 10, 11, 12, 13, 14], [14]), ([15, 0, 1, 2, 3, 4, 5, 6, 7, 8, 9, 10, 11, 12, 13, 14, 15], [])])
def disk_Get.B9 : List Nat := [0, 1, 3, 0, 8, 24, 56, 120, 0, 256, 768, 1792, 4088, 0, 16383, 32767, 65535]
theorem disk_Get.tab9 : rtab .any (opsOf Try.f93 9) = disk_Get.T9 := by kernel_rfl
theorem disk_Get.bits9 : waitsOk disk_Get.T9.2 disk_Get.B9 = true := by kernel_rfl
set_option maxHeartbeats 8000000 in
set_option maxRecDepth 100000 in
theorem disk_Get.calls (k : Nat) (A0 : Option Addr) (c0 : Nat) (l0 : List Int) (r1 : Int) (r2 : Int) (r3 : Int) (r4 : Bool) (w : World) (hr0 : Kd.C (Kd.int .u8) w A0 l0.length l0) (hc0 : l0.length ≤ c0) (h : disk_Get.f k l0 = some (r1, r2, r3, r4)) :
  Calls Try.prog 93 #[.slice A0 l0.length c0] w fun e w' => e = .returned (.tuple #[.agg #[.int .u8 r1, .int .u16 r2, .int .u32 r3], .bool r4]) ∧ Below w.heap.size w w' := by
 have hu130 := Try.underlying130
 have HR0 := Aside0.mk hr0
 have HC0 := Aside0.mk hc0
 clear hr0 hc0
 have HB := Aside0.mk (Below.refl w.heap.size w)
 have H : (if (l0.length : Int) = 512 then (if 1 < (l0.length : Int) then (disk_Get.j0 k l0 ((rd l0 1) != 0)) else (none)) else (disk_Get.j0 k l0 true)) = some (r1, r2, r3, r4) := h
 clear h
 have HC2 := Aside0.mk H
 clear H
 go_enter Try.func93, Try.ntmps93
 go_upto_region 1 with (first | ((with_reducible refine gate_dst (N := 2) rfl ?_); refine box_event ?hg (N := 2) ?hd (cs := #[.int .u8 0, .int .u16 0, .int .u32 0]) (t := 130) ?hr ?_; (case hd => rfl); (case hg => rfl); (case hr => first | (go_simp; done) | (go_simp; rfl)); intro gb132 hg w3 hbox hb; have n0_ := Aside0.mk (below_step (by repeat (first | (with_reducible first | exact HB.out | apply below_alloc | apply pw_below_drewN | apply below_drew1) | exact HB.out)) hb); have n1_ := Aside0.mk (hbox); have n2_ := Aside0.mk ((by rw [hg]; exact (below_size (by repeat (first | (with_reducible first | exact HB.out | apply below_alloc | apply pw_below_drewN | apply below_drew1) | exact HB.out))) : w.heap.size ≤ gb132)); have n3_ := Aside0.mk ((by rw [hg]; exact (below_size (by repeat (first | (with_reducible first | exact HB.out | apply below_alloc | apply pw_below_drewN | apply below_drew1) | exact HB.out))) : w.heap.size ≤ gb132)); clear HB; have HB := n0_; have BK132 := n1_; have GW132 := n2_; have GE132 := n3_; clear n0_ n1_ n2_ n3_; clear hb hbox hg))
 (try simp only [Act.put, List.setIfInBounds_toArray, List.set_cons_zero, List.set_cons_succ])
 go_cut [15] (fun v15 wc => ∃ (kq : Nat) (x15_1 : Bool), v15 = .bool x15_1 ∧ Aside0 (disk_Get.j0 kq l0 x15_1 = some (r1, r2, r3, r4)) ∧ Aside0 (kq ≤ k) ∧ Aside0 (wc.heap[gb132]? = some (.cells #[.int .u8 0, .int .u16 0, .int .u32 0] 130 (0, 0))) ∧ Aside0 (Below w.heap.size w wc))
 case first =>
  have H := HC2.out
  clear HC2
  by_cases c4 : (l0.length : Int) = 512
  ·rw [if_pos c4] at H
   have c4b0 : ((l0.length : Int) == 512) = true := beq_iff_eq.mpr c4
   have c4b1 : ((l0.length : Int) != 512) = false := bne_eq_false_iff_eq.mpr c4
   clear c4
   (first | rw [c4b0] | (simp only [i64_w, i32_w]; rw [c4b0]) | skip)
   by_cases c5 : 1 < (l0.length : Int)
   ·rw [if_pos c5] at H
    have c5b0 : decide (1 < (l0.length : Int)) = true := decide_eq_true c5
    have c5b1 : decide (1 < l0.length) = true := decide_eq_true (by omega)
    clear c5
    have H' := Aside0.mk H
    clear H
    have p133 : 0 ≤ (1 : Int) := (by omega)
    have q133 : 1 < (l0.length : Int) := of_decide_eq_true (by first | (with_reducible assumption) | assumption)
    obtain ⟨ad133, e133, hx133_0⟩ := Kd.at_int HR0.out 1 p133 q133
    cases e133
    (try simp only [show (1 : Int).toNat = 1 from rfl, Nat.reduceMul, Nat.reduceEqDiff, Go.Addr.add, ↓reduceIte] at hx133_0)
    have qi133 : (1 < l0.length) = True := eq_true (by omega)
    (try rw [show ((1 : Int)).toNat = 1 from rfl] at hx133_0)
    replace hx133_0 := (HB.out.cell (World.block_lt_of_cell? w _ hx133_0)).trans hx133_0
    replace p133 := eq_true p133
    have p133D := p133; try simp only [List.length_drop, List.length_take] at p133D
    replace q133 := eq_true q133
    have q133D := q133; try simp only [List.length_drop, List.length_take] at q133D
    go_wp2
    go_meet
    case rel => exact ⟨_, (((rd l0 1) != 0)), (by first | rfl | (simp; done) | (simp [*]; done)), H', ⟨by first | omega | exact Nat.le_refl _⟩, ⟨by (with_reducible repeat (first | refine blk_drewN ?_ _ | refine blk_drew ?_ | refine blk_alloc ?_ _)); exact BK132.out⟩, ⟨by repeat (first | (with_reducible first | exact HB.out | apply below_alloc | apply pw_below_drewN | apply below_drew1 | refine below_set ?_ GE132.out) | exact HB.out)⟩⟩
   ·rw [if_neg c5] at H
    exact absurd H (by simp)
  ·rw [if_neg c4] at H
   have c4b0 : ((l0.length : Int) == 512) = false := beq_eq_false_iff_ne.mpr c4
   have c4b1 : ((l0.length : Int) != 512) = true := bne_iff_ne.mpr c4
   (first | rw [c4b0] | (simp only [i64_w, i32_w]; rw [c4b0]) | skip)
   have H' := Aside0.mk H
   clear H
   go_wp2
   go_meet
   case rel => exact ⟨_, (true), (by first | rfl | (simp; done) | (simp [*]; done)), H', ⟨by first | omega | exact Nat.le_refl _⟩, ⟨by (with_reducible repeat (first | refine blk_drewN ?_ _ | refine blk_drew ?_ | refine blk_alloc ?_ _)); exact BK132.out⟩, ⟨by repeat (first | (with_reducible first | exact HB.out | apply below_alloc | apply pw_below_drewN | apply below_drew1 | refine below_set ?_ GE132.out) | exact HB.out)⟩⟩
 case rest =>
  clear HC2
  try clear p1
  try clear q1
  try clear hx1
  try clear qi1
  try clear p2
  try clear c4
  try clear c4b0
  try clear c4b1
  try clear c5
  try clear c5b0
  try clear c5b1
  try clear hx133_0
  try clear p133
  try clear q133
  obtain ⟨kq, x15_1, rfl, HA, HJ1, BK132, HB⟩ := hcut
  cases kq with
  | zero => exact absurd HA.out (by simp [disk_Get.j0])
  | succ kj1 =>
   have H := HA.out
   clear HA
   simp only [disk_Get.j0] at H
   by_cases c6 : x15_1 = true
   ·subst c6
    have H1 : (some (0, 0, 0, false)) = some (r1, r2, r3, r4) := by rw [if_pos rfl] at H; exact H
    clear H
    have H := H1
    clear H1
    simp only [Option.some.injEq, Prod.mk.injEq] at H
    obtain ⟨rfl, rfl, rfl, rfl⟩ := H
    have hcz7_0 : wc.cell? ⟨gb132, 0, none⟩ = some (.int .u8 0) := (blk_cell BK132.out 0).trans rfl
    have hcz7_1 : wc.cell? ⟨gb132, 1, none⟩ = some (.int .u16 0) := (blk_cell BK132.out 1).trans rfl
    have hcz7_2 : wc.cell? ⟨gb132, 2, none⟩ = some (.int .u32 0) := (blk_cell BK132.out 2).trans rfl
    have hfz7_0 := blk_frozen BK132.out 0
    have hfz7_1 := blk_frozen BK132.out 1
    have hfz7_2 := blk_frozen BK132.out 2
    go_wp2
    refine bodyPost_ret (results_ct rfl _ _ gb132 130 #[.int .u8 0, .int .u16 0, .int .u32 0] (0, 0) _ rfl (by (with_reducible repeat (first | refine blk_drewN ?_ _ | refine blk_drew ?_ | refine blk_alloc ?_ _)); refine blk_put (cs := #[.int .u8 0, .int .u16 0, .int .u32 0]) ?_ 2 _ rfl; (with_reducible repeat (first | refine blk_drewN ?_ _ | refine blk_drew ?_ | refine blk_alloc ?_ _)); refine blk_put (cs := #[.int .u8 0, .int .u16 0, .int .u32 0]) ?_ 1 _ rfl; (with_reducible repeat (first | refine blk_drewN ?_ _ | refine blk_drew ?_ | refine blk_alloc ?_ _)); refine blk_put (cs := #[.int .u8 0, .int .u16 0, .int .u32 0]) ?_ 0 _ rfl; (with_reducible repeat (first | refine blk_drewN ?_ _ | refine blk_drew ?_ | refine blk_alloc ?_ _)); exact BK132.out) Try.underlying130 rfl (by kernel_rfl)) rfl ?_
    exact ⟨by first | rfl | (simp [errW_none, errW_some] <;> rfl) | (simp [*, errW_none, errW_some] <;> rfl), by repeat (first | (with_reducible first | exact HB.out | apply below_alloc | apply pw_below_drewN | apply below_drew1 | refine below_set ?_ GE132.out) | exact HB.out)⟩
   ·replace c6 := Bool.eq_false_iff.mpr c6
    subst c6
    have H1 : (if 4 ≤ 8 then (if 8 ≤ (l0.length : Int) then (disk_Get.l0 kj1 l0 0 ((l0.take 8).drop 4) (((l0.take 8).drop 4).length : Int) 0) else (none)) else (none)) = some (r1, r2, r3, r4) := by rw [if_neg (show ¬ (false = true) by decide)] at H; exact H
    clear H
    have H := H1
    clear H1
    by_cases c8 : 4 ≤ 8
    ·rw [if_pos c8] at H
     have c8b0 := eq_true c8
     have c8b1 : decide (4 ≤ 8) = true := decide_eq_true c8
     clear c8
     by_cases c9 : 8 ≤ (l0.length : Int)
     ·rw [if_pos c9] at H
      have c9b0 := eq_true c9
      have c9b1 : decide (8 ≤ (l0.length : Int)) = true := decide_eq_true c9
      clear c9
      have H' := Aside0.mk H
      clear H
      obtain ⟨i010, hi010, _, hsz10, _⟩ := info_parts info5
      obtain ⟨A10, hcut10, hA10, hC10⟩ := print_mid_of (P := Try.prog) (Value.int .u8) 0 52 5 .i64 .i64 Try.underlying52 hi010 hsz10 A0 c0 l0 4 8 (by omega) (by first | omega | exact of_decide_eq_true (by first | (with_reducible assumption) | assumption)) (of_decide_eq_true (by first | (with_reducible assumption) | assumption)) HC0.out
      have HR134 := Aside0.mk (Kd.C_of_reads (h1 := fun _ => rfl) (hA10 _ (Kd.reads_of_C HR0.out)))
      have HC134 := Aside0.mk hC10
      clear hA10 hC10 hi010 hsz10
      go_wp2
      go_loopg [4, 20] kj1 (fun kq v4 v20 w' => ∃ (x4_2 : Int) (x20_2 : Int), v4 = .int .u32 x4_2 ∧ v20 = .int .i64 x20_2 ∧ Aside0 (disk_Get.l0 kq l0 x4_2 ((l0.take 8).drop 4) (((l0.take 8).drop 4).length : Int) x20_2 = some (r1, r2, r3, r4)) ∧ Aside0 (kq ≤ kj1) ∧ Aside0 (w'.heap[gb132]? = some (.cells #[.int .u8 0, .int .u16 0, .int .u32 0] 130 (0, 0))) ∧ Aside0 (Below w.heap.size w w'))
      case atStart => exact ⟨(0), (0), (by first | rfl | (simp; done) | (simp [*]; done)), (by first | rfl | (simp; done) | (simp [*]; done)), H', ⟨Nat.le_refl _⟩, ⟨by (with_reducible repeat (first | refine blk_drewN ?_ _ | refine blk_drew ?_ | refine blk_alloc ?_ _)); exact BK132.out⟩, ⟨by repeat (first | (with_reducible first | exact HB.out | apply below_alloc | apply pw_below_drewN | apply below_drew1 | refine below_set ?_ GE132.out) | exact HB.out)⟩⟩
      case round =>
       clear H'
       try clear p1
       try clear q1
       try clear hx1
       try clear qi1
       try clear p2
       try clear c4
       try clear c4b0
       try clear c4b1
       try clear c5
       try clear c5b0
       try clear c5b1
       try clear c6
       try clear c8
       try clear c8b0
       try clear c8b1
       try clear c9
       try clear c9b0
       try clear c9b1
       try clear hcz7_0
       try clear hcz7_1
       try clear hcz7_2
       try clear hfz7_0
       try clear hfz7_1
       try clear hfz7_2
       try clear hx133_0
       try clear p1
       try clear p133
       try clear p2
       try clear q1
       try clear q133
       obtain ⟨x4_2, x20_2, rfl, rfl, HA, HK2, BK132, HB⟩ := hrel
       cases gk with
       | zero => exact absurd HA.out (by simp [disk_Get.l0])
       | succ k2 =>
        have H := HA.out
        clear HA
        simp only [disk_Get.l0] at H
        by_cases c11 : x20_2 < (((l0.take 8).drop 4).length : Int)
        ·rw [if_pos c11] at H
         have c11b0 : decide (x20_2 < (((l0.take 8).drop 4).length : Int)) = true := decide_eq_true c11
         have c11b0D := c11b0; try simp only [List.length_drop, List.length_take] at c11b0D
         clear c11
         by_cases c12 : 0 ≤ x20_2
         ·rw [if_pos c12] at H
          have c12b0 : decide (0 ≤ x20_2) = true := decide_eq_true c12
          clear c12
          by_cases c13 : x20_2 < (((l0.take 8).drop 4).length : Int)
          ·rw [if_pos c13] at H
           have c13b0 : decide (x20_2 < (((l0.take 8).drop 4).length : Int)) = true := decide_eq_true c13
           have c13b0D := c13b0; try simp only [List.length_drop, List.length_take] at c13b0D
           clear c13
           have H' := Aside0.mk H
           clear H
           have p135 : 0 ≤ (x20_2 : Int) := of_decide_eq_true (by first | (with_reducible assumption) | assumption)
           have q135 : x20_2 < (((l0.take 8).drop 4).length : Int) := of_decide_eq_true (by first | (with_reducible assumption) | assumption)
           obtain ⟨ad135, e135, hx135_0⟩ := Kd.at_int HR134.out x20_2 p135 q135
           cases e135
           replace hx135_0 := (HB.out.cell (World.block_lt_of_cell? w _ hx135_0)).trans hx135_0
           replace p135 := eq_true p135
           have p135D := p135; try simp only [List.length_drop, List.length_take] at p135D
           replace q135 := eq_true q135
           have q135D := q135; try simp only [List.length_drop, List.length_take] at q135D
           go_wp2
           go_roundg k2
           case measure => have := HJ1.out; have := HK2.out; omega
           case rel => exact ⟨(Go.bits .or .u32 ((x4_2 * 256) % 4294967296) ((rd ((l0.take 8).drop 4) x20_2) % 4294967296)), (wrap64 (x20_2 + 1)), (by first | rfl | (simp; done) | (simp [*]; done)), (by first | rfl | (simp; done) | (simp [*]; done)), H', ⟨by have := HJ1.out; have := HK2.out; omega⟩, ⟨by (with_reducible repeat (first | refine blk_drewN ?_ _ | refine blk_drew ?_ | refine blk_alloc ?_ _)); exact BK132.out⟩, ⟨by repeat (first | (with_reducible first | exact HB.out | apply below_alloc | apply pw_below_drewN | apply below_drew1 | refine below_set ?_ GE132.out) | exact HB.out)⟩⟩
          ·rw [if_neg c13] at H
           exact absurd H (by simp)
         ·rw [if_neg c12] at H
          exact absurd H (by simp)
        ·rw [if_neg c11] at H
         have c11b0 : decide (x20_2 < (((l0.take 8).drop 4).length : Int)) = false := decide_eq_false c11
         have c11b0D := c11b0; try simp only [List.length_drop, List.length_take] at c11b0D
         clear c11
         by_cases c14 : 0 < (l0.length : Int)
         ·rw [if_pos c14] at H
          have c14b0 : decide (0 < (l0.length : Int)) = true := decide_eq_true c14
          have c14b1 : decide (0 < l0.length) = true := decide_eq_true (by omega)
          clear c14
          by_cases c15 : 2 < (l0.length : Int)
          ·rw [if_pos c15] at H
           have c15b0 : decide (2 < (l0.length : Int)) = true := decide_eq_true c15
           have c15b1 : decide (2 < l0.length) = true := decide_eq_true (by omega)
           clear c15
           by_cases c16 : 3 < (l0.length : Int)
           ·rw [if_pos c16] at H
            have c16b0 : decide (3 < (l0.length : Int)) = true := decide_eq_true c16
            have c16b1 : decide (3 < l0.length) = true := decide_eq_true (by omega)
            clear c16
            simp only [Option.some.injEq, Prod.mk.injEq] at H
            obtain ⟨rfl, rfl, rfl, rfl⟩ := H
            try go_wp2
            have n0_ := Aside0.mk (blk_drew BK132.out)
            have n1_ := Aside0.mk (below_drew1 HB.out)
            clear BK132
            clear HB
            have BK132 := n0_
            have HB := n1_
            clear n0_ n1_
            have p136 : 0 ≤ (0 : Int) := (by omega)
            have q136 : 0 < (l0.length : Int) := of_decide_eq_true (by first | (with_reducible assumption) | assumption)
            obtain ⟨ad136, e136, hx136_0⟩ := Kd.at_int HR0.out 0 p136 q136
            have hw136_0 := hx136_0
            (try rw [show ((0 : Int)).toNat = 0 from rfl] at hw136_0)
            (try rw [show 0 * 1 = 0 from rfl] at hw136_0)
            (try rw [Addr.add_zero'] at hw136_0)
            cases e136
            have qi136 : (0 < l0.length) = True := eq_true (by omega)
            (try rw [show ((0 : Int)).toNat = 0 from rfl] at hx136_0)
            (try rw [Addr.add_zero'] at hx136_0)
            replace hx136_0 := (HB.out.cell (World.block_lt_of_cell? w _ hx136_0)).trans hx136_0
            replace p136 := eq_true p136
            have p136D := p136; try simp only [List.length_drop, List.length_take] at p136D
            replace q136 := eq_true q136
            have q136D := q136; try simp only [List.length_drop, List.length_take] at q136D
            have p137 : 0 ≤ (2 : Int) := (by omega)
            have q137 : 2 < (l0.length : Int) := of_decide_eq_true (by first | (with_reducible assumption) | assumption)
            obtain ⟨ad137, e137, hx137_0⟩ := Kd.at_int HR0.out 2 p137 q137
            have hw137_0 := hx137_0
            (try rw [show ((2 : Int)).toNat = 2 from rfl] at hw137_0)
            (try rw [show 2 * 1 = 2 from rfl] at hw137_0)
            (try simp only [Nat.reduceMul, Nat.reduceEqDiff, Go.Addr.add, ↓reduceIte] at hw137_0)
            obtain rfl : ad136 = ad137 := (by injection e137)
            (try simp only [show (2 : Int).toNat = 2 from rfl, Nat.reduceMul, Nat.reduceEqDiff, Go.Addr.add, ↓reduceIte] at hx137_0)
            have qi137 : (2 < l0.length) = True := eq_true (by omega)
            (try rw [show ((2 : Int)).toNat = 2 from rfl] at hx137_0)
            replace hx137_0 := (HB.out.cell (World.block_lt_of_cell? w _ hx137_0)).trans hx137_0
            replace p137 := eq_true p137
            have p137D := p137; try simp only [List.length_drop, List.length_take] at p137D
            replace q137 := eq_true q137
            have q137D := q137; try simp only [List.length_drop, List.length_take] at q137D
            have p138 : 0 ≤ (3 : Int) := (by omega)
            have q138 : 3 < (l0.length : Int) := of_decide_eq_true (by first | (with_reducible assumption) | assumption)
            obtain ⟨ad138, e138, hx138_0⟩ := Kd.at_int HR0.out 3 p138 q138
            have hw138_0 := hx138_0
            (try rw [show ((3 : Int)).toNat = 3 from rfl] at hw138_0)
            (try rw [show 3 * 1 = 3 from rfl] at hw138_0)
            (try simp only [Nat.reduceMul, Nat.reduceEqDiff, Go.Addr.add, ↓reduceIte] at hw138_0)
            obtain rfl : ad136 = ad138 := (by injection e138)
            (try simp only [show (3 : Int).toNat = 3 from rfl, Nat.reduceMul, Nat.reduceEqDiff, Go.Addr.add, ↓reduceIte] at hx138_0)
            have qi138 : (3 < l0.length) = True := eq_true (by omega)
            (try rw [show ((3 : Int)).toNat = 3 from rfl] at hx138_0)
            replace hx138_0 := (HB.out.cell (World.block_lt_of_cell? w _ hx138_0)).trans hx138_0
            replace p138 := eq_true p138
            have p138D := p138; try simp only [List.length_drop, List.length_take] at p138D
            replace q138 := eq_true q138
            have q138D := q138; try simp only [List.length_drop, List.length_take] at q138D
            refine start_ (n := 17) (S := fun w' => w'.cell? ad136 = some (.int .u8 (rd l0 0)) ∧ w'.cell? ⟨ad136.block, ad136.off + 2, none⟩ = some (.int .u8 (rd l0 2)) ∧ w'.cell? ⟨ad136.block, ad136.off + 3, none⟩ = some (.int .u8 (rd l0 3))) (ds := []) #[false, false, false, false, false, false, false, false, false, false, false, false, false, false, false, false, false] (by kernel_rfl) rfl rfl ⟨((HB.out.cell (World.block_lt_of_cell? w _ hw136_0)).trans hw136_0), ((HB.out.cell (World.block_lt_of_cell? w _ hw137_0)).trans hw137_0), ((HB.out.cell (World.block_lt_of_cell? w _ hw138_0)).trans hw138_0)⟩ (fun hHeld => ?_); refine with_tabW disk_Get.tab9 disk_Get.bits9 (fun HT_ HW_ => ?_)
            generalize wr.drew = w17 at BK132 HB hx136_0 hx137_0 hx138_0 hHeld ⊢
            refine pure_ (i := 0) (N := some 30) (v := ?_) (a' := ?_) #[true, false, false, false, false, false, false, false, false, false, false, false, false, false, false, false, false] rfl rfl (any_of HT_.out (by kernel_rfl)) (fun _ _ _ h => h) (Or.inl ⟨by rfl, ?_⟩) ?_ ?_
            rotate_left
            ·intro w'
             go_simp
             with_reducible rfl
            rotate_left
            ·simp only [Act.put, List.setIfInBounds_toArray, List.set_cons_zero, List.set_cons_succ, i64_w, i32_w]
             rfl
            refine pure_ (i := 1) (N := some 31) (v := ?_) (a' := ?_) #[true, true, false, false, false, false, false, false, false, false, false, false, false, false, false, false, false] rfl rfl (any_of HT_.out (by kernel_rfl)) (fun _ _ _ h => h) (Or.inl ⟨by rfl, ?_⟩) ?_ ?_
            rotate_left
            ·intro w'
             go_simp
             with_reducible rfl
            rotate_left
            ·simp only [Act.put, List.setIfInBounds_toArray, List.set_cons_zero, List.set_cons_succ, i64_w, i32_w]
             rfl
            refine pure_ (i := 3) (N := some 33) (v := ?_) (a' := ?_) #[true, true, false, true, false, false, false, false, false, false, false, false, false, false, false, false, false] rfl rfl (any_of HT_.out (by kernel_rfl)) (fun _ _ _ h => h) (Or.inl ⟨by rfl, ?_⟩) ?_ ?_
            rotate_left
            ·intro w'
             go_simp
             with_reducible rfl
            rotate_left
            ·simp only [Act.put, List.setIfInBounds_toArray, List.set_cons_zero, List.set_cons_succ, i64_w, i32_w]
             rfl
            refine pure_ (i := 4) (N := some 34) (v := ?_) (a' := ?_) #[true, true, false, true, true, false, false, false, false, false, false, false, false, false, false, false, false] rfl rfl (any_of HT_.out (by kernel_rfl)) (fun _ _ _ h => h) (Or.inl ⟨by rfl, ?_⟩) ?_ ?_
            rotate_left
            ·intro w'
             go_simp
             with_reducible rfl
            rotate_left
            ·simp only [Act.put, List.setIfInBounds_toArray, List.set_cons_zero, List.set_cons_succ, i64_w, i32_w]
             rfl
            refine pure_ (i := 8) (N := some 38) (v := ?_) (a' := ?_) #[true, true, false, true, true, false, false, false, true, false, false, false, false, false, false, false, false] rfl rfl (any_of HT_.out (by kernel_rfl)) (fun _ _ _ h => h) (Or.inl ⟨by rfl, ?_⟩) ?_ ?_
            rotate_left
            ·intro w'
             go_simp
             with_reducible rfl
            rotate_left
            ·simp only [Act.put, List.setIfInBounds_toArray, List.set_cons_zero, List.set_cons_succ, i64_w, i32_w]
             rfl
            refine pure_ (i := 9) (N := some 39) (v := ?_) (a' := ?_) #[true, true, false, true, true, false, false, false, true, true, false, false, false, false, false, false, false] rfl rfl (any_of HT_.out (by kernel_rfl)) (fun _ _ _ h => h) (Or.inl ⟨by rfl, ?_⟩) ?_ ?_
            rotate_left
            ·intro w'
             go_simp
             with_reducible rfl
            rotate_left
            ·simp only [Act.put, List.setIfInBounds_toArray, List.set_cons_zero, List.set_cons_succ, i64_w, i32_w]
             rfl
            refine pure_ (i := 13) (N := some 43) (v := ?_) (a' := ?_) #[true, true, false, true, true, false, false, false, true, true, false, false, false, true, false, false, false] rfl rfl (any_of HT_.out (by kernel_rfl)) (fun _ _ _ h => h) (Or.inl ⟨by rfl, ?_⟩) ?_ ?_
            rotate_left
            ·intro w'
             go_simp
             with_reducible rfl
            rotate_left
            ·simp only [Act.put, List.setIfInBounds_toArray, List.set_cons_zero, List.set_cons_succ, i64_w, i32_w]
             rfl
            refine take_ (i := 2) (N := some 32) (v := ?_) (a' := ?_) #[true, true, true, true, true, false, false, false, true, true, false, false, false, true, false, false, false] rfl rfl (take_ofW HT_.out HW_.out (by kernel_rfl)) (fun _ _ _ h => h) (Or.inl ⟨by rfl, ?_⟩) hHeld ?_ ?_
            rotate_left
            ·rintro w' ⟨s0, s1, s2⟩
             go_simp
             with_reducible rfl
            rotate_left
            ·simp only [Act.put, List.setIfInBounds_toArray, List.set_cons_zero, List.set_cons_succ, i64_w, i32_w]
             rfl
            refine take_ (i := 5) (N := some 35) (v := ?_) (a' := ?_) #[true, true, true, true, true, true, false, false, true, true, false, false, false, true, false, false, false] rfl rfl (take_ofW HT_.out HW_.out (by kernel_rfl)) (fun _ _ _ h => h) (Or.inl ⟨by rfl, ?_⟩) hHeld ?_ ?_
            rotate_left
            ·rintro w' ⟨s0, s1, s2⟩
             go_simp
             with_reducible rfl
            rotate_left
            ·simp only [Act.put, List.setIfInBounds_toArray, List.set_cons_zero, List.set_cons_succ, i64_w, i32_w]
             rfl
            refine pure_ (i := 6) (N := some 36) (v := ?_) (a' := ?_) #[true, true, true, true, true, true, true, false, true, true, false, false, false, true, false, false, false] rfl rfl (any_of HT_.out (by kernel_rfl)) (fun _ _ _ h => h) (Or.inl ⟨by rfl, ?_⟩) ?_ ?_
            rotate_left
            ·intro w'
             go_simp
             with_reducible rfl
            rotate_left
            ·simp only [Act.put, List.setIfInBounds_toArray, List.set_cons_zero, List.set_cons_succ, i64_w, i32_w]
             rfl
            refine pure_ (i := 7) (N := some 37) (v := ?_) (a' := ?_) #[true, true, true, true, true, true, true, true, true, true, false, false, false, true, false, false, false] rfl rfl (any_of HT_.out (by kernel_rfl)) (fun _ _ _ h => h) (Or.inl ⟨by rfl, ?_⟩) ?_ ?_
            rotate_left
            ·intro w'
             go_simp
             with_reducible rfl
            rotate_left
            ·simp only [Act.put, List.setIfInBounds_toArray, List.set_cons_zero, List.set_cons_succ, i64_w, i32_w]
             rfl
            refine take_ (i := 10) (N := some 40) (v := ?_) (a' := ?_) #[true, true, true, true, true, true, true, true, true, true, true, false, false, true, false, false, false] rfl rfl (take_ofW HT_.out HW_.out (by kernel_rfl)) (fun _ _ _ h => h) (Or.inl ⟨by rfl, ?_⟩) hHeld ?_ ?_
            rotate_left
            ·rintro w' ⟨s0, s1, s2⟩
             go_simp
             with_reducible rfl
            rotate_left
            ·simp only [Act.put, List.setIfInBounds_toArray, List.set_cons_zero, List.set_cons_succ, i64_w, i32_w]
             rfl
            refine pure_ (i := 11) (N := some 41) (v := ?_) (a' := ?_) #[true, true, true, true, true, true, true, true, true, true, true, true, false, true, false, false, false] rfl rfl (any_of HT_.out (by kernel_rfl)) (fun _ _ _ h => h) (Or.inl ⟨by rfl, ?_⟩) ?_ ?_
            rotate_left
            ·intro w'
             go_simp
             with_reducible rfl
            rotate_left
            ·simp only [Act.put, List.setIfInBounds_toArray, List.set_cons_zero, List.set_cons_succ, i64_w, i32_w]
             rfl
            refine pure_ (i := 12) (N := some 42) (v := ?_) (a' := ?_) #[true, true, true, true, true, true, true, true, true, true, true, true, true, true, false, false, false] rfl rfl (any_of HT_.out (by kernel_rfl)) (fun _ _ _ h => h) (Or.inl ⟨by rfl, ?_⟩) ?_ ?_
            rotate_left
            ·intro w'
             go_simp
             with_reducible rfl
            rotate_left
            ·simp only [Act.put, List.setIfInBounds_toArray, List.set_cons_zero, List.set_cons_succ, i64_w, i32_w]
             rfl
            refine pure_ (i := 14) (N := some 44) (v := ?_) (a' := ?_) #[true, true, true, true, true, true, true, true, true, true, true, true, true, true, true, false, false] rfl rfl (any_of HT_.out (by kernel_rfl)) (fun _ _ _ h => h) (Or.inl ⟨by rfl, ?_⟩) ?_ ?_
            rotate_left
            ·intro w'
             go_simp
             with_reducible rfl
            rotate_left
            ·simp only [Act.put, List.setIfInBounds_toArray, List.set_cons_zero, List.set_cons_succ, i64_w, i32_w]
             rfl
            refine one_ (i := 15) (N := none) #[true, true, true, true, true, true, true, true, true, true, true, true, true, true, true, true, false] rfl rfl (one_of HT_.out (by kernel_rfl)) (by decide) (fun K hK => ?_)
            have hs18 : w17.cell? ⟨gb132, 0, none⟩ = some (.int .u8 0) := (blk_cell BK132.out 0).trans rfl
            have hfs18 := blk_frozen BK132.out 0
            have hs19 : w17.cell? ⟨gb132, 1, none⟩ = some (.int .u16 0) := (blk_cell BK132.out 1).trans rfl
            have hfs19 := blk_frozen BK132.out 1
            have hs20 : w17.cell? ⟨gb132, 2, none⟩ = some (.int .u32 0) := (blk_cell BK132.out 2).trans rfl
            have hfs20 := blk_frozen BK132.out 2
            refine skip_ (w1 := ?_) (by rfl) rfl ?_ ?_
            rotate_left
            ·go_simp
             rfl
            refine hK.out _ _ ⟨((cell_far (p := ⟨gb132, _, none⟩) (by first | exact Nat.ne_of_lt (Nat.lt_of_lt_of_le (by have := World.block_lt_of_cell? _ _ hw136_0; first | rwa [add_block] at this | exact this) GW132.out) | (rw [add_block]; exact Nat.ne_of_lt (Nat.lt_of_lt_of_le (by have := World.block_lt_of_cell? _ _ hw136_0; first | rwa [add_block] at this | exact this) GW132.out)) | (show (Addr.add _ _).block ≠ _; rw [add_block]; exact Nat.ne_of_lt (Nat.lt_of_lt_of_le (by have := World.block_lt_of_cell? _ _ hw136_0; first | rwa [add_block] at this | exact this) GW132.out)) | (dsimp only; exact Nat.ne_of_lt (Nat.lt_of_lt_of_le (by have := World.block_lt_of_cell? _ _ hw136_0; first | rwa [add_block] at this | exact this) GW132.out))) _).trans (((cell_far (p := ⟨gb132, _, none⟩) (by first | exact Nat.ne_of_lt (Nat.lt_of_lt_of_le (by have := World.block_lt_of_cell? _ _ hw136_0; first | rwa [add_block] at this | exact this) GW132.out) | (rw [add_block]; exact Nat.ne_of_lt (Nat.lt_of_lt_of_le (by have := World.block_lt_of_cell? _ _ hw136_0; first | rwa [add_block] at this | exact this) GW132.out)) | (show (Addr.add _ _).block ≠ _; rw [add_block]; exact Nat.ne_of_lt (Nat.lt_of_lt_of_le (by have := World.block_lt_of_cell? _ _ hw136_0; first | rwa [add_block] at this | exact this) GW132.out)) | (dsimp only; exact Nat.ne_of_lt (Nat.lt_of_lt_of_le (by have := World.block_lt_of_cell? _ _ hw136_0; first | rwa [add_block] at this | exact this) GW132.out))) _).trans (((cell_far (p := ⟨gb132, _, none⟩) (by first | exact Nat.ne_of_lt (Nat.lt_of_lt_of_le (by have := World.block_lt_of_cell? _ _ hw136_0; first | rwa [add_block] at this | exact this) GW132.out) | (rw [add_block]; exact Nat.ne_of_lt (Nat.lt_of_lt_of_le (by have := World.block_lt_of_cell? _ _ hw136_0; first | rwa [add_block] at this | exact this) GW132.out)) | (show (Addr.add _ _).block ≠ _; rw [add_block]; exact Nat.ne_of_lt (Nat.lt_of_lt_of_le (by have := World.block_lt_of_cell? _ _ hw136_0; first | rwa [add_block] at this | exact this) GW132.out)) | (dsimp only; exact Nat.ne_of_lt (Nat.lt_of_lt_of_le (by have := World.block_lt_of_cell? _ _ hw136_0; first | rwa [add_block] at this | exact this) GW132.out))) _).trans (hHeld.1)))))), ((cell_far (p := ⟨gb132, _, none⟩) (by first | exact Nat.ne_of_lt (Nat.lt_of_lt_of_le (by have := World.block_lt_of_cell? _ _ hw137_0; first | rwa [add_block] at this | exact this) GW132.out) | (rw [add_block]; exact Nat.ne_of_lt (Nat.lt_of_lt_of_le (by have := World.block_lt_of_cell? _ _ hw137_0; first | rwa [add_block] at this | exact this) GW132.out)) | (show (Addr.add _ _).block ≠ _; rw [add_block]; exact Nat.ne_of_lt (Nat.lt_of_lt_of_le (by have := World.block_lt_of_cell? _ _ hw137_0; first | rwa [add_block] at this | exact this) GW132.out)) | (dsimp only; exact Nat.ne_of_lt (Nat.lt_of_lt_of_le (by have := World.block_lt_of_cell? _ _ hw137_0; first | rwa [add_block] at this | exact this) GW132.out))) _).trans (((cell_far (p := ⟨gb132, _, none⟩) (by first | exact Nat.ne_of_lt (Nat.lt_of_lt_of_le (by have := World.block_lt_of_cell? _ _ hw137_0; first | rwa [add_block] at this | exact this) GW132.out) | (rw [add_block]; exact Nat.ne_of_lt (Nat.lt_of_lt_of_le (by have := World.block_lt_of_cell? _ _ hw137_0; first | rwa [add_block] at this | exact this) GW132.out)) | (show (Addr.add _ _).block ≠ _; rw [add_block]; exact Nat.ne_of_lt (Nat.lt_of_lt_of_le (by have := World.block_lt_of_cell? _ _ hw137_0; first | rwa [add_block] at this | exact this) GW132.out)) | (dsimp only; exact Nat.ne_of_lt (Nat.lt_of_lt_of_le (by have := World.block_lt_of_cell? _ _ hw137_0; first | rwa [add_block] at this | exact this) GW132.out))) _).trans (((cell_far (p := ⟨gb132, _, none⟩) (by first | exact Nat.ne_of_lt (Nat.lt_of_lt_of_le (by have := World.block_lt_of_cell? _ _ hw137_0; first | rwa [add_block] at this | exact this) GW132.out) | (rw [add_block]; exact Nat.ne_of_lt (Nat.lt_of_lt_of_le (by have := World.block_lt_of_cell? _ _ hw137_0; first | rwa [add_block] at this | exact this) GW132.out)) | (show (Addr.add _ _).block ≠ _; rw [add_block]; exact Nat.ne_of_lt (Nat.lt_of_lt_of_le (by have := World.block_lt_of_cell? _ _ hw137_0; first | rwa [add_block] at this | exact this) GW132.out)) | (dsimp only; exact Nat.ne_of_lt (Nat.lt_of_lt_of_le (by have := World.block_lt_of_cell? _ _ hw137_0; first | rwa [add_block] at this | exact this) GW132.out))) _).trans (hHeld.2.1)))))), ((cell_far (p := ⟨gb132, _, none⟩) (by first | exact Nat.ne_of_lt (Nat.lt_of_lt_of_le (by have := World.block_lt_of_cell? _ _ hw138_0; first | rwa [add_block] at this | exact this) GW132.out) | (rw [add_block]; exact Nat.ne_of_lt (Nat.lt_of_lt_of_le (by have := World.block_lt_of_cell? _ _ hw138_0; first | rwa [add_block] at this | exact this) GW132.out)) | (show (Addr.add _ _).block ≠ _; rw [add_block]; exact Nat.ne_of_lt (Nat.lt_of_lt_of_le (by have := World.block_lt_of_cell? _ _ hw138_0; first | rwa [add_block] at this | exact this) GW132.out)) | (dsimp only; exact Nat.ne_of_lt (Nat.lt_of_lt_of_le (by have := World.block_lt_of_cell? _ _ hw138_0; first | rwa [add_block] at this | exact this) GW132.out))) _).trans (((cell_far (p := ⟨gb132, _, none⟩) (by first | exact Nat.ne_of_lt (Nat.lt_of_lt_of_le (by have := World.block_lt_of_cell? _ _ hw138_0; first | rwa [add_block] at this | exact this) GW132.out) | (rw [add_block]; exact Nat.ne_of_lt (Nat.lt_of_lt_of_le (by have := World.block_lt_of_cell? _ _ hw138_0; first | rwa [add_block] at this | exact this) GW132.out)) | (show (Addr.add _ _).block ≠ _; rw [add_block]; exact Nat.ne_of_lt (Nat.lt_of_lt_of_le (by have := World.block_lt_of_cell? _ _ hw138_0; first | rwa [add_block] at this | exact this) GW132.out)) | (dsimp only; exact Nat.ne_of_lt (Nat.lt_of_lt_of_le (by have := World.block_lt_of_cell? _ _ hw138_0; first | rwa [add_block] at this | exact this) GW132.out))) _).trans (((cell_far (p := ⟨gb132, _, none⟩) (by first | exact Nat.ne_of_lt (Nat.lt_of_lt_of_le (by have := World.block_lt_of_cell? _ _ hw138_0; first | rwa [add_block] at this | exact this) GW132.out) | (rw [add_block]; exact Nat.ne_of_lt (Nat.lt_of_lt_of_le (by have := World.block_lt_of_cell? _ _ hw138_0; first | rwa [add_block] at this | exact this) GW132.out)) | (show (Addr.add _ _).block ≠ _; rw [add_block]; exact Nat.ne_of_lt (Nat.lt_of_lt_of_le (by have := World.block_lt_of_cell? _ _ hw138_0; first | rwa [add_block] at this | exact this) GW132.out)) | (dsimp only; exact Nat.ne_of_lt (Nat.lt_of_lt_of_le (by have := World.block_lt_of_cell? _ _ hw138_0; first | rwa [add_block] at this | exact this) GW132.out))) _).trans (hHeld.2.2))))))⟩ (fun hHeld => ?_)
            clear hK K
            refine pure_ (i := 16) (N := some 3) (v := ?_) (a' := ?_) #[true, true, true, true, true, true, true, true, true, true, true, true, true, true, true, true, true] rfl rfl (any_of HT_.out (by kernel_rfl)) (fun _ _ _ h => h) (Or.inl ⟨by rfl, ?_⟩) ?_ ?_
            rotate_left
            ·intro w'
             go_simp
             with_reducible rfl
            rotate_left
            ·simp only [Act.put, List.setIfInBounds_toArray, List.set_cons_zero, List.set_cons_succ, i64_w, i32_w]
             rfl
            refine done_ (done_of HT_.out (by kernel_rfl)) ?_
            try go_wp2
            refine bodyPost_ret (results_ct rfl _ _ gb132 130 #[.int .u8 (rd l0 0), .int .u16 (Go.bits .or .u16 (IntKind.u16.wrap ((IntKind.u16.wrap (rd l0 2)) * 256)) (IntKind.u16.wrap (rd l0 3))), .int .u32 x4_2] (0, 0) _ rfl (by (with_reducible repeat (first | refine blk_drewN ?_ _ | refine blk_drew ?_ | refine blk_alloc ?_ _)); refine blk_put (cs := #[.int .u8 (rd l0 0), .int .u16 (Go.bits .or .u16 (IntKind.u16.wrap ((IntKind.u16.wrap (rd l0 2)) * 256)) (IntKind.u16.wrap (rd l0 3))), .int .u32 0]) ?_ 2 _ rfl; (with_reducible repeat (first | refine blk_drewN ?_ _ | refine blk_drew ?_ | refine blk_alloc ?_ _)); refine blk_put (cs := #[.int .u8 (rd l0 0), .int .u16 0, .int .u32 0]) ?_ 1 _ rfl; (with_reducible repeat (first | refine blk_drewN ?_ _ | refine blk_drew ?_ | refine blk_alloc ?_ _)); refine blk_put (cs := #[.int .u8 0, .int .u16 0, .int .u32 0]) ?_ 0 _ rfl; (with_reducible repeat (first | refine blk_drewN ?_ _ | refine blk_drew ?_ | refine blk_alloc ?_ _)); exact BK132.out) Try.underlying130 rfl (by kernel_rfl)) rfl ?_
            exact ⟨by first | rfl | (simp [errW_none, errW_some] <;> rfl) | (simp [*, errW_none, errW_some] <;> rfl), by repeat (first | (with_reducible first | exact HB.out | apply below_alloc | apply pw_below_drewN | apply below_drew1 | refine below_set ?_ GE132.out) | exact HB.out)⟩
           ·rw [if_neg c16] at H
            exact absurd H (by simp)
          ·rw [if_neg c15] at H
           exact absurd H (by simp)
         ·rw [if_neg c14] at H
          exact absurd H (by simp)
     ·rw [if_neg c9] at H
      exact absurd H (by simp)
    ·rw [if_neg c8] at H
     exact absurd H (by simp)

/-! ### slots_page_bytes: function 107 -/

/-! ### bytes_Equal: function 118 -/
def bytes_Equal.f (l0 : List Int) (l1 : List Int) : Option (Bool) := some ((strOfNums l0).toList == (strOfNums l1).toList)
set_option maxHeartbeats 8000000 in
set_option maxRecDepth 100000 in
theorem bytes_Equal.calls (A0 : Option Addr) (c0 : Nat) (l0 : List Int) (A1 : Option Addr) (c1 : Nat) (l1 : List Int) (r : Bool) (w : World) (hr0 : Kd.C (Kd.int .u8) w A0 l0.length l0) (hc0 : l0.length ≤ c0) (hr1 : Kd.C (Kd.int .u8) w A1 l1.length l1) (hc1 : l1.length ≤ c1) (h : bytes_Equal.f l0 l1 = some r) :
  Calls Try.prog 118 #[.slice A0 l0.length c0, .slice A1 l1.length c1] w fun e w' => e = .returned (.bool r) ∧ Drawn0 w w' := by
 have HR0 := Aside0.mk hr0
 have HC0 := Aside0.mk hc0
 clear hr0 hc0
 have HR1 := Aside0.mk hr1
 have HC1 := Aside0.mk hc1
 clear hr1 hc1
 have H : (some ((strOfNums l0).toList == (strOfNums l1).toList)) = some r := h
 clear h
 obtain rfl := Option.some.inj H
 have hcv3 := Kd.C_string (P := Try.prog) (A := A0) (c := c0) Try.underlying52 Try.underlying5 Try.underlying9 HR0.out
 have hcv4 := Kd.C_string (P := Try.prog) (A := A1) (c := c1) Try.underlying52 Try.underlying5 Try.underlying9 HR1.out
 go_enter Try.func118, Try.ntmps118
 go_wp2
 go_ret
 exact ⟨by first | rfl | (simp; done) | (simp [*]; done), by repeat (first | exact Drawn0.refl _ | apply Drawn0.step)⟩

end Go.Proofs.Ytpfegfkniilobaa.XHeap
