-- Written by this session's own program (wip/own_print.py) over the kit's print, with this session's hand-proved contracts in their places; Lean checks it.
import Derived.Test.YtegegpdaalfbdaaXLogicTestx0
import Derived.Test.YtegegpdaalfbdaaXLogicTestx3
namespace Go.Proofs.Ytegegpdaalfbdaa.XLogicTest
open Go.RowKit Go.Proofs.YtegegpdaalfbdaaW.PrintWords Go.Proofs.YtegegpdaalfbdaaW.PrintLast Go.Proofs.YtegegpdaalfbdaaW.PrintMore
attribute [local go_sem] max2_int min2_int max_two min_two max_three min_three max_four min_four   -- for this text's walks alone
set_option linter.unusedVariables false
set_option linter.unusedSimpArgs false

/-! ### rowlockref02_Test: function 25 -/
mutual
def rowlockref02_Test.j0 : Nat → ByteArray → Bool → Int → Int → ByteArray → Int → Int → ByteArray → Option (Int)
  | 0, _, _, _, _, _, _, _, _ => none
  | k + 1, x0, x17, x146000, x146001, x146002, x147000, x147001, x147002 => if x17 = true then (some 1) else (if x146000 = x147000 then (rowlockref02_Test.j1 k x0 (decide (x146000 > 3)) x146000 x146001 x146002 x147000 x147001 x147002) else (rowlockref02_Test.j1 k x0 true x146000 x146001 x146002 x147000 x147001 x147002))
def rowlockref02_Test.j1 : Nat → ByteArray → Bool → Int → Int → ByteArray → Int → Int → ByteArray → Option (Int)
  | 0, _, _, _, _, _, _, _, _ => none
  | k + 1, x0, x27, x146000, x146001, x146002, x147000, x147001, x147002 => if x27 = true then (some 2) else ((rowlockref01_Less.f k x146000 x146001 x146002 x147000 x147001 x147002).bind fun t147 => ((rowlockref01_Less.f k x147000 x147001 x147002 x146000 x146001 x146002).bind fun t148 => (if x0.toList = ([61] : List UInt8) then (if t147 = true then (some 0) else (if t148 = true then (some 0) else (some 3))) else (if x0.toList = ([60, 62] : List UInt8) then (if t147 = true then (some 3) else (if t148 = true then (some 3) else (some 0))) else (if x0.toList = ([60] : List UInt8) then (if t147 = true then (some 3) else (some 0)) else (if x0.toList = ([60, 61] : List UInt8) then (if t148 = true then (some 0) else (some 3)) else (if x0.toList = ([62] : List UInt8) then (if t148 = true then (some 3) else (some 0)) else (if x0.toList = ([62, 61] : List UInt8) then (if t147 = true then (some 0) else (some 3)) else (some 2)))))))))
end
def rowlockref02_Test.f (k : Nat) (a0 : ByteArray) (a1_0 : Int) (a1_1 : Int) (a1_2 : ByteArray) (a2_0 : Int) (a2_1 : Int) (a2_2 : ByteArray) : Option (Int) := if a1_0 = 0 then (rowlockref02_Test.j0 k a0 true a1_0 a1_1 a1_2 a2_0 a2_1 a2_2) else (rowlockref02_Test.j0 k a0 (a2_0 == 0) a1_0 a1_1 a1_2 a2_0 a2_1 a2_2)
theorem rowlockref02_Test.mono_l : ∀ k, (∀ y0 y1 y2 y3 y4 y5 y6 y7, LeO (rowlockref02_Test.j0 k y0 y1 y2 y3 y4 y5 y6 y7) (rowlockref02_Test.j0 (k + 1) y0 y1 y2 y3 y4 y5 y6 y7)) ∧ (∀ y0 y1 y2 y3 y4 y5 y6 y7, LeO (rowlockref02_Test.j1 k y0 y1 y2 y3 y4 y5 y6 y7) (rowlockref02_Test.j1 (k + 1) y0 y1 y2 y3 y4 y5 y6 y7))
  | 0 => ⟨fun _ _ _ _ _ _ _ _ r h => by simp [rowlockref02_Test.j0] at h, fun _ _ _ _ _ _ _ _ r h => by simp [rowlockref02_Test.j1] at h⟩
  | k + 1 => by
    obtain ⟨ih0, ih1⟩ := rowlockref02_Test.mono_l k
    refine ⟨?_, ?_⟩
    · intro y0 y1 y2 y3 y4 y5 y6 y7
      unfold rowlockref02_Test.j0
      repeat' first
      | (with_reducible exact ih0 _ _ _ _ _ _ _ _)
      | (with_reducible exact ih1 _ _ _ _ _ _ _ _)
      | (with_reducible exact rowlockref01_Less.mono _ _ _ _ _ _ _)
      | (with_reducible exact LeO.refl _)
      | (with_reducible exact LeO.none _)
      | (with_reducible refine LeO.ite ?_ ?_)
      | (with_reducible refine LeO.bind ?_ (fun _ => ?_))
      | exact ih0 _ _ _ _ _ _ _ _
      | exact ih1 _ _ _ _ _ _ _ _
      | exact rowlockref01_Less.mono _ _ _ _ _ _ _
      | exact LeO.none _
      | refine LeO.ite ?_ ?_
      | refine LeO.bind ?_ (fun _ => ?_)
    · intro y0 y1 y2 y3 y4 y5 y6 y7
      unfold rowlockref02_Test.j1
      repeat' first
      | (with_reducible exact ih0 _ _ _ _ _ _ _ _)
      | (with_reducible exact ih1 _ _ _ _ _ _ _ _)
      | (with_reducible exact rowlockref01_Less.mono _ _ _ _ _ _ _)
      | (with_reducible exact LeO.refl _)
      | (with_reducible exact LeO.none _)
      | (with_reducible refine LeO.ite ?_ ?_)
      | (with_reducible refine LeO.bind ?_ (fun _ => ?_))
      | exact ih0 _ _ _ _ _ _ _ _
      | exact ih1 _ _ _ _ _ _ _ _
      | exact rowlockref01_Less.mono _ _ _ _ _ _ _
      | exact LeO.none _
      | refine LeO.ite ?_ ?_
      | refine LeO.bind ?_ (fun _ => ?_)
theorem rowlockref02_Test.mono : ∀ a0 a1 a2 a3 a4 a5 a6 k, LeO (rowlockref02_Test.f k a0 a1 a2 a3 a4 a5 a6) (rowlockref02_Test.f (k + 1) a0 a1 a2 a3 a4 a5 a6) := by
  intro a0 a1 a2 a3 a4 a5 a6 k
  obtain ⟨ih0, ih1⟩ := rowlockref02_Test.mono_l k
  unfold rowlockref02_Test.f
  repeat' first
      | (with_reducible exact ih0 _ _ _ _ _ _ _ _)
      | (with_reducible exact ih1 _ _ _ _ _ _ _ _)
      | (with_reducible exact rowlockref01_Less.mono _ _ _ _ _ _ _)
      | (with_reducible exact LeO.refl _)
      | (with_reducible exact LeO.none _)
      | (with_reducible refine LeO.ite ?_ ?_)
      | (with_reducible refine LeO.bind ?_ (fun _ => ?_))
      | exact ih0 _ _ _ _ _ _ _ _
      | exact ih1 _ _ _ _ _ _ _ _
      | exact rowlockref01_Less.mono _ _ _ _ _ _ _
      | exact LeO.none _
      | refine LeO.ite ?_ ?_
      | refine LeO.bind ?_ (fun _ => ?_)
set_option maxHeartbeats 8000000 in
set_option maxRecDepth 100000 in
theorem rowlockref02_Test.calls (k : Nat) (a0 : ByteArray) (a1_0 : Int) (a1_1 : Int) (a1_2 : ByteArray) (a2_0 : Int) (a2_1 : Int) (a2_2 : ByteArray) (r : Int) (w : World) (h : rowlockref02_Test.f k a0 a1_0 a1_1 a1_2 a2_0 a2_1 a2_2 = some r) :
    Calls Try.prog 25 #[.string a0, .agg #[.int .u8 a1_0, .int .i64 a1_1, .string a1_2], .agg #[.int .u8 a2_0, .int .i64 a2_1, .string a2_2]] w fun e w' => e = .returned (.int .i64 r) ∧ Below w.heap.size w w' := by
  have hu36 := Try.underlying36
  have HB := Aside0.mk (Below.refl w.heap.size w)
  have H : (if a1_0 = 0 then (rowlockref02_Test.j0 k a0 true a1_0 a1_1 a1_2 a2_0 a2_1 a2_2) else (rowlockref02_Test.j0 k a0 (a2_0 == 0) a1_0 a1_1 a1_2 a2_0 a2_1 a2_2)) = some r := h
  clear h
  have HC4 := Aside0.mk H
  clear H
  go_enter Try.func25, Try.ntmps25
  go_upto_region 1 with (first | ((with_reducible refine gate_dst (N := 4) rfl ?_); refine box_event ?hg (N := 4) ?hd (cs := #[.int .u8 a1_0, .int .i64 a1_1, .string a1_2]) (t := 36) ?hr ?_; (case hd => rfl); (case hg => rfl); (case hr => first | (go_simp; done) | (go_simp; rfl)); intro gb145 hg w5 hbox hb; have n0_ := Aside0.mk (below_step (by repeat (first | (with_reducible first | exact HB.out | apply below_alloc | apply pw_below_drewN | apply below_drew1) | exact HB.out)) hb); have n1_ := Aside0.mk (hbox); have n2_ := Aside0.mk ((by rw [hg]; exact (below_size (by repeat (first | (with_reducible first | exact HB.out | apply below_alloc | apply pw_below_drewN | apply below_drew1) | exact HB.out))) : w.heap.size ≤ gb145)); have n3_ := Aside0.mk ((by rw [hg]; exact (below_size (by repeat (first | (with_reducible first | exact HB.out | apply below_alloc | apply pw_below_drewN | apply below_drew1) | exact HB.out))) : w.heap.size ≤ gb145)); clear HB; have HB := n0_; have BK145 := n1_; have GW145 := n2_; have GE145 := n3_; clear n0_ n1_ n2_ n3_; clear hb hbox hg) | ((with_reducible refine gate_dst (N := 5) rfl ?_); refine box_event ?hg (N := 5) ?hd (cs := #[.int .u8 a2_0, .int .i64 a2_1, .string a2_2]) (t := 36) ?hr ?_; (case hd => rfl); (case hg => rfl); (case hr => first | (go_simp; done) | (go_simp; rfl)); intro gb146 hg w6 hbox hb; have n0_ := Aside0.mk (blk_below (g := gb145) (o := .cells #[.int .u8 a1_0, .int .i64 a1_1, .string a1_2] 36 (0, 0)) (by (with_reducible repeat (first | refine blk_drewN ?_ _ | refine blk_drew ?_ | refine blk_alloc ?_ _)); exact BK145.out) hb); have n1_ := Aside0.mk (below_step (by repeat (first | (with_reducible first | exact HB.out | apply below_alloc | apply pw_below_drewN | apply below_drew1 | refine below_set ?_ GE145.out) | exact HB.out)) hb); have n2_ := Aside0.mk (hbox); have n3_ := Aside0.mk ((by rw [hg]; exact (below_size (by repeat (first | (with_reducible first | exact HB.out | apply below_alloc | apply pw_below_drewN | apply below_drew1 | refine below_set ?_ GE145.out) | exact HB.out))) : w.heap.size ≤ gb146)); have n4_ := Aside0.mk ((by rw [hg]; exact (below_size (by repeat (first | (with_reducible first | exact HB.out | apply below_alloc | apply pw_below_drewN | apply below_drew1 | refine below_set ?_ GE145.out) | exact HB.out))) : w.heap.size ≤ gb146)); have n5_ := Aside0.mk ((by rw [hg]; exact Nat.ne_of_lt (blk_lt (g := gb145) (o := .cells #[.int .u8 a1_0, .int .i64 a1_1, .string a1_2] 36 (0, 0)) (by (with_reducible repeat (first | refine blk_drewN ?_ _ | refine blk_drew ?_ | refine blk_alloc ?_ _)); exact BK145.out)) : gb145 ≠ gb146)); have n6_ := Aside0.mk ((by rw [hg]; exact Nat.ne_of_gt (blk_lt (g := gb145) (o := .cells #[.int .u8 a1_0, .int .i64 a1_1, .string a1_2] 36 (0, 0)) (by (with_reducible repeat (first | refine blk_drewN ?_ _ | refine blk_drew ?_ | refine blk_alloc ?_ _)); exact BK145.out)) : gb146 ≠ gb145)); clear BK145; clear HB; have BK145 := n0_; have HB := n1_; have BK146 := n2_; have GW146 := n3_; have GE146 := n4_; have NB145_146 := n5_; have NB146_145 := n6_; clear n0_ n1_ n2_ n3_ n4_ n5_ n6_; clear hb hbox hg))
  (try simp only [Act.put, List.setIfInBounds_toArray, List.set_cons_zero, List.set_cons_succ])
  go_cut [17] (fun v17 wc => ∃ (kq : Nat) (x17_3 : Bool), v17 = .bool x17_3 ∧ Aside0 (rowlockref02_Test.j0 kq a0 x17_3 a1_0 a1_1 a1_2 a2_0 a2_1 a2_2 = some r) ∧ Aside0 (kq ≤ k) ∧ Aside0 (wc.heap[gb145]? = some (.cells #[.int .u8 a1_0, .int .i64 a1_1, .string a1_2] 36 (0, 0))) ∧ Aside0 (wc.heap[gb146]? = some (.cells #[.int .u8 a2_0, .int .i64 a2_1, .string a2_2] 36 (0, 0))) ∧ Aside0 (Below w.heap.size w wc))
  case first =>
    have H := HC4.out
    clear HC4
    by_cases c7 : a1_0 = 0
    · rw [if_pos c7] at H
      have c7b0 : (a1_0 == 0) = true := beq_iff_eq.mpr c7
      have c7b1 : (a1_0 != 0) = false := bne_eq_false_iff_eq.mpr c7
      clear c7
      (first | rw [c7b0] | (simp only [i64_w, i32_w]; rw [c7b0]) | skip)
      have H' := Aside0.mk H
      clear H
      have hnb8 := NB145_146.out
      have hnc8 := NB146_145.out
      have hcz9_0 : w6.cell? ⟨gb145, 0, none⟩ = some (.int .u8 a1_0) := (blk_cell BK145.out 0).trans rfl
      have hcz9_1 : w6.cell? ⟨gb145, 1, none⟩ = some (.int .i64 a1_1) := (blk_cell BK145.out 1).trans rfl
      have hcz9_2 : w6.cell? ⟨gb145, 2, none⟩ = some (.string a1_2) := (blk_cell BK145.out 2).trans rfl
      have hfz9_0 := blk_frozen BK145.out 0
      have hfz9_1 := blk_frozen BK145.out 1
      have hfz9_2 := blk_frozen BK145.out 2
      go_wp2
      go_meet
      case rel => exact ⟨_, (true), (by first | rfl | (simp; done) | (simp [*]; done)), H', ⟨by first | omega | exact Nat.le_refl _⟩, ⟨by (with_reducible repeat (first | refine blk_drewN ?_ _ | refine blk_drew ?_ | refine blk_alloc ?_ _)); exact BK145.out⟩, ⟨by (with_reducible repeat (first | refine blk_drewN ?_ _ | refine blk_drew ?_ | refine blk_alloc ?_ _)); exact BK146.out⟩, ⟨by repeat (first | (with_reducible first | exact HB.out | apply below_alloc | apply pw_below_drewN | apply below_drew1 | refine below_set ?_ GE145.out | refine below_set ?_ GE146.out) | exact HB.out)⟩⟩
    · rw [if_neg c7] at H
      have c7b0 : (a1_0 == 0) = false := beq_eq_false_iff_ne.mpr c7
      have c7b1 : (a1_0 != 0) = true := bne_iff_ne.mpr c7
      (first | rw [c7b0] | (simp only [i64_w, i32_w]; rw [c7b0]) | skip)
      have H' := Aside0.mk H
      clear H
      have hnb10 := NB145_146.out
      have hnc10 := NB146_145.out
      have hcz11_0 : w6.cell? ⟨gb145, 0, none⟩ = some (.int .u8 a1_0) := (blk_cell BK145.out 0).trans rfl
      have hcz11_1 : w6.cell? ⟨gb145, 1, none⟩ = some (.int .i64 a1_1) := (blk_cell BK145.out 1).trans rfl
      have hcz11_2 : w6.cell? ⟨gb145, 2, none⟩ = some (.string a1_2) := (blk_cell BK145.out 2).trans rfl
      have hfz11_0 := blk_frozen BK145.out 0
      have hfz11_1 := blk_frozen BK145.out 1
      have hfz11_2 := blk_frozen BK145.out 2
      have hcz12_0 : w6.cell? ⟨gb146, 0, none⟩ = some (.int .u8 a2_0) := (blk_cell BK146.out 0).trans rfl
      have hcz12_1 : w6.cell? ⟨gb146, 1, none⟩ = some (.int .i64 a2_1) := (blk_cell BK146.out 1).trans rfl
      have hcz12_2 : w6.cell? ⟨gb146, 2, none⟩ = some (.string a2_2) := (blk_cell BK146.out 2).trans rfl
      have hfz12_0 := blk_frozen BK146.out 0
      have hfz12_1 := blk_frozen BK146.out 1
      have hfz12_2 := blk_frozen BK146.out 2
      go_wp2
      go_meet
      case rel => exact ⟨_, ((a2_0 == 0)), (by first | rfl | (simp; done) | (simp [*]; done)), H', ⟨by first | omega | exact Nat.le_refl _⟩, ⟨by (with_reducible repeat (first | refine blk_drewN ?_ _ | refine blk_drew ?_ | refine blk_alloc ?_ _)); exact BK145.out⟩, ⟨by (with_reducible repeat (first | refine blk_drewN ?_ _ | refine blk_drew ?_ | refine blk_alloc ?_ _)); exact BK146.out⟩, ⟨by repeat (first | (with_reducible first | exact HB.out | apply below_alloc | apply pw_below_drewN | apply below_drew1 | refine below_set ?_ GE145.out | refine below_set ?_ GE146.out) | exact HB.out)⟩⟩
  case rest =>
    clear HC4
    try clear c1
    try clear c2
    try clear p2
    try clear c7
    try clear c7b0
    try clear c7b1
    try clear c8
    try clear c10
    try clear hcz11_0
    try clear hcz11_1
    try clear hcz11_2
    try clear hcz12_0
    try clear hcz12_1
    try clear hcz12_2
    try clear hcz9_0
    try clear hcz9_1
    try clear hcz9_2
    try clear hfz11_0
    try clear hfz11_1
    try clear hfz11_2
    try clear hfz12_0
    try clear hfz12_1
    try clear hfz12_2
    try clear hfz9_0
    try clear hfz9_1
    try clear hfz9_2
    obtain ⟨kq, x17_3, rfl, HA, HJ3, BK145, BK146, HB⟩ := hcut
    cases kq with
    | zero => exact absurd HA.out (by simp [rowlockref02_Test.j0])
    | succ kj3 =>
      have H := HA.out
      clear HA
      simp only [rowlockref02_Test.j0] at H
      by_cases c13 : x17_3 = true
      · subst c13
        have H1 : (some 1) = some r := by rw [if_pos rfl] at H; exact H
        clear H
        have H := H1
        clear H1
        obtain rfl := Option.some.inj H
        go_wp2
        go_ret
        exact ⟨by first | rfl | (simp [errW_none, errW_some] <;> rfl) | (simp [*, errW_none, errW_some] <;> rfl), by repeat (first | (with_reducible first | exact HB.out | apply below_alloc | apply pw_below_drewN | apply below_drew1 | refine below_set ?_ GE145.out | refine below_set ?_ GE146.out) | exact HB.out)⟩
      · replace c13 := Bool.eq_false_iff.mpr c13
        subst c13
        have H1 : (if a1_0 = a2_0 then (rowlockref02_Test.j1 kj3 a0 (decide (a1_0 > 3)) a1_0 a1_1 a1_2 a2_0 a2_1 a2_2) else (rowlockref02_Test.j1 kj3 a0 true a1_0 a1_1 a1_2 a2_0 a2_1 a2_2)) = some r := by rw [if_neg (show ¬ (false = true) by decide)] at H; exact H
        clear H
        have H := H1
        clear H1
        have HC14 := Aside0.mk H
        clear H
        go_upto_region 3 with (fail)
        go_cut [27] (fun v27 wc => ∃ (kq : Nat) (x27_13 : Bool), v27 = .bool x27_13 ∧ Aside0 (rowlockref02_Test.j1 kq a0 x27_13 a1_0 a1_1 a1_2 a2_0 a2_1 a2_2 = some r) ∧ Aside0 (kq ≤ kj3) ∧ Aside0 (wc.heap[gb145]? = some (.cells #[.int .u8 a1_0, .int .i64 a1_1, .string a1_2] 36 (0, 0))) ∧ Aside0 (wc.heap[gb146]? = some (.cells #[.int .u8 a2_0, .int .i64 a2_1, .string a2_2] 36 (0, 0))) ∧ Aside0 (Below w.heap.size w wc))
        case first =>
          have H := HC14.out
          clear HC14
          by_cases c15 : a1_0 = a2_0
          · rw [if_pos c15] at H
            have c15b0 : (a1_0 == a2_0) = true := beq_iff_eq.mpr c15
            have c15b1 : (a1_0 != a2_0) = false := bne_eq_false_iff_eq.mpr c15
            clear c15
            (first | rw [c15b0] | (simp only [i64_w, i32_w]; rw [c15b0]) | skip)
            have H' := Aside0.mk H
            clear H
            have hnb16 := NB145_146.out
            have hnc16 := NB146_145.out
            have hcz17_0 : wc.cell? ⟨gb145, 0, none⟩ = some (.int .u8 a1_0) := (blk_cell BK145.out 0).trans rfl
            have hcz17_1 : wc.cell? ⟨gb145, 1, none⟩ = some (.int .i64 a1_1) := (blk_cell BK145.out 1).trans rfl
            have hcz17_2 : wc.cell? ⟨gb145, 2, none⟩ = some (.string a1_2) := (blk_cell BK145.out 2).trans rfl
            have hfz17_0 := blk_frozen BK145.out 0
            have hfz17_1 := blk_frozen BK145.out 1
            have hfz17_2 := blk_frozen BK145.out 2
            have hcz18_0 : wc.cell? ⟨gb146, 0, none⟩ = some (.int .u8 a2_0) := (blk_cell BK146.out 0).trans rfl
            have hcz18_1 : wc.cell? ⟨gb146, 1, none⟩ = some (.int .i64 a2_1) := (blk_cell BK146.out 1).trans rfl
            have hcz18_2 : wc.cell? ⟨gb146, 2, none⟩ = some (.string a2_2) := (blk_cell BK146.out 2).trans rfl
            have hfz18_0 := blk_frozen BK146.out 0
            have hfz18_1 := blk_frozen BK146.out 1
            have hfz18_2 := blk_frozen BK146.out 2
            go_wp2
            go_meet
            case rel => exact ⟨_, (decide (a1_0 > 3)), (by first | rfl | (simp; done) | (simp [*]; done)), H', ⟨by have := HJ3.out; first | omega | exact Nat.le_refl _⟩, ⟨by (with_reducible repeat (first | refine blk_drewN ?_ _ | refine blk_drew ?_ | refine blk_alloc ?_ _)); exact BK145.out⟩, ⟨by (with_reducible repeat (first | refine blk_drewN ?_ _ | refine blk_drew ?_ | refine blk_alloc ?_ _)); exact BK146.out⟩, ⟨by repeat (first | (with_reducible first | exact HB.out | apply below_alloc | apply pw_below_drewN | apply below_drew1 | refine below_set ?_ GE145.out | refine below_set ?_ GE146.out) | exact HB.out)⟩⟩
          · rw [if_neg c15] at H
            have c15b0 : (a1_0 == a2_0) = false := beq_eq_false_iff_ne.mpr c15
            have c15b1 : (a1_0 != a2_0) = true := bne_iff_ne.mpr c15
            (first | rw [c15b0] | (simp only [i64_w, i32_w]; rw [c15b0]) | skip)
            have H' := Aside0.mk H
            clear H
            have hnb19 := NB145_146.out
            have hnc19 := NB146_145.out
            have hcz20_0 : wc.cell? ⟨gb145, 0, none⟩ = some (.int .u8 a1_0) := (blk_cell BK145.out 0).trans rfl
            have hcz20_1 : wc.cell? ⟨gb145, 1, none⟩ = some (.int .i64 a1_1) := (blk_cell BK145.out 1).trans rfl
            have hcz20_2 : wc.cell? ⟨gb145, 2, none⟩ = some (.string a1_2) := (blk_cell BK145.out 2).trans rfl
            have hfz20_0 := blk_frozen BK145.out 0
            have hfz20_1 := blk_frozen BK145.out 1
            have hfz20_2 := blk_frozen BK145.out 2
            have hcz21_0 : wc.cell? ⟨gb146, 0, none⟩ = some (.int .u8 a2_0) := (blk_cell BK146.out 0).trans rfl
            have hcz21_1 : wc.cell? ⟨gb146, 1, none⟩ = some (.int .i64 a2_1) := (blk_cell BK146.out 1).trans rfl
            have hcz21_2 : wc.cell? ⟨gb146, 2, none⟩ = some (.string a2_2) := (blk_cell BK146.out 2).trans rfl
            have hfz21_0 := blk_frozen BK146.out 0
            have hfz21_1 := blk_frozen BK146.out 1
            have hfz21_2 := blk_frozen BK146.out 2
            go_wp2
            go_meet
            case rel => exact ⟨_, (true), (by first | rfl | (simp; done) | (simp [*]; done)), H', ⟨by have := HJ3.out; first | omega | exact Nat.le_refl _⟩, ⟨by (with_reducible repeat (first | refine blk_drewN ?_ _ | refine blk_drew ?_ | refine blk_alloc ?_ _)); exact BK145.out⟩, ⟨by (with_reducible repeat (first | refine blk_drewN ?_ _ | refine blk_drew ?_ | refine blk_alloc ?_ _)); exact BK146.out⟩, ⟨by repeat (first | (with_reducible first | exact HB.out | apply below_alloc | apply pw_below_drewN | apply below_drew1 | refine below_set ?_ GE145.out | refine below_set ?_ GE146.out) | exact HB.out)⟩⟩
        case rest =>
          clear HC14
          try clear c1
          try clear c2
          try clear p2
          try clear c7
          try clear c7b0
          try clear c7b1
          try clear c8
          try clear c10
          try clear c13
          try clear c15
          try clear c15b0
          try clear c15b1
          try clear c16
          try clear c19
          try clear hcz11_0
          try clear hcz11_1
          try clear hcz11_2
          try clear hcz12_0
          try clear hcz12_1
          try clear hcz12_2
          try clear hcz17_0
          try clear hcz17_1
          try clear hcz17_2
          try clear hcz18_0
          try clear hcz18_1
          try clear hcz18_2
          try clear hcz20_0
          try clear hcz20_1
          try clear hcz20_2
          try clear hcz21_0
          try clear hcz21_1
          try clear hcz21_2
          try clear hcz9_0
          try clear hcz9_1
          try clear hcz9_2
          try clear hfz11_0
          try clear hfz11_1
          try clear hfz11_2
          try clear hfz12_0
          try clear hfz12_1
          try clear hfz12_2
          try clear hfz17_0
          try clear hfz17_1
          try clear hfz17_2
          try clear hfz18_0
          try clear hfz18_1
          try clear hfz18_2
          try clear hfz20_0
          try clear hfz20_1
          try clear hfz20_2
          try clear hfz21_0
          try clear hfz21_1
          try clear hfz21_2
          try clear hfz9_0
          try clear hfz9_1
          try clear hfz9_2
          try clear p2
          obtain ⟨kq, x27_13, rfl, HA, HJ13, BK145, BK146, HB⟩ := hcut
          cases kq with
          | zero => exact absurd HA.out (by simp [rowlockref02_Test.j1])
          | succ kj13 =>
            have H := HA.out
            clear HA
            simp only [rowlockref02_Test.j1] at H
            by_cases c22 : x27_13 = true
            · subst c22
              have H1 : (some 2) = some r := by rw [if_pos rfl] at H; exact H
              clear H
              have H := H1
              clear H1
              obtain rfl := Option.some.inj H
              go_wp2
              go_ret
              exact ⟨by first | rfl | (simp [errW_none, errW_some] <;> rfl) | (simp [*, errW_none, errW_some] <;> rfl), by repeat (first | (with_reducible first | exact HB.out | apply below_alloc | apply pw_below_drewN | apply below_drew1 | refine below_set ?_ GE145.out | refine below_set ?_ GE146.out) | exact HB.out)⟩
            · replace c22 := Bool.eq_false_iff.mpr c22
              subst c22
              have H1 : ((rowlockref01_Less.f kj13 a1_0 a1_1 a1_2 a2_0 a2_1 a2_2).bind fun t147 => ((rowlockref01_Less.f kj13 a2_0 a2_1 a2_2 a1_0 a1_1 a1_2).bind fun t148 => (if a0.toList = ([61] : List UInt8) then (if t147 = true then (some 0) else (if t148 = true then (some 0) else (some 3))) else (if a0.toList = ([60, 62] : List UInt8) then (if t147 = true then (some 3) else (if t148 = true then (some 3) else (some 0))) else (if a0.toList = ([60] : List UInt8) then (if t147 = true then (some 3) else (some 0)) else (if a0.toList = ([60, 61] : List UInt8) then (if t148 = true then (some 0) else (some 3)) else (if a0.toList = ([62] : List UInt8) then (if t148 = true then (some 3) else (some 0)) else (if a0.toList = ([62, 61] : List UInt8) then (if t147 = true then (some 0) else (some 3)) else (some 2))))))))) = some r := by rw [if_neg (show ¬ (false = true) by decide)] at H; exact H
              clear H
              have H := H1
              clear H1
              replace H := Option.bind_eq_some_iff.mp H
              obtain ⟨t147, A230, H⟩ := H
              replace H : ((rowlockref01_Less.f kj13 a2_0 a2_1 a2_2 a1_0 a1_1 a1_2).bind fun t148 => (if a0.toList = ([61] : List UInt8) then (if t147 = true then (some 0) else (if t148 = true then (some 0) else (some 3))) else (if a0.toList = ([60, 62] : List UInt8) then (if t147 = true then (some 3) else (if t148 = true then (some 3) else (some 0))) else (if a0.toList = ([60] : List UInt8) then (if t147 = true then (some 3) else (some 0)) else (if a0.toList = ([60, 61] : List UInt8) then (if t148 = true then (some 0) else (some 3)) else (if a0.toList = ([62] : List UInt8) then (if t148 = true then (some 3) else (some 0)) else (if a0.toList = ([62, 61] : List UInt8) then (if t147 = true then (some 0) else (some 3)) else (some 2)))))))) = some r := H
              have A23 := Aside0.mk A230
              clear A230
              replace H := Option.bind_eq_some_iff.mp H
              obtain ⟨t148, A240, H⟩ := H
              replace H : (if a0.toList = ([61] : List UInt8) then (if t147 = true then (some 0) else (if t148 = true then (some 0) else (some 3))) else (if a0.toList = ([60, 62] : List UInt8) then (if t147 = true then (some 3) else (if t148 = true then (some 3) else (some 0))) else (if a0.toList = ([60] : List UInt8) then (if t147 = true then (some 3) else (some 0)) else (if a0.toList = ([60, 61] : List UInt8) then (if t148 = true then (some 0) else (some 3)) else (if a0.toList = ([62] : List UInt8) then (if t148 = true then (some 3) else (some 0)) else (if a0.toList = ([62, 61] : List UInt8) then (if t147 = true then (some 0) else (some 3)) else (some 2))))))) = some r := H
              have A24 := Aside0.mk A240
              clear A240
              by_cases c25 : a0.toList = ([61] : List UInt8)
              · rw [if_pos c25] at H
                have c25b0 : (a0.toList == ([61] : List UInt8)) = true := beq_iff_eq.mpr c25
                have c25b1 : (a0.toList != ([61] : List UInt8)) = false := bne_eq_false_iff_eq.mpr c25
                clear c25
                by_cases c26 : t147 = true
                · subst c26
                  have H1 : (some 0) = some r := by rw [if_pos rfl] at H; exact H
                  clear H
                  have H := H1
                  clear H1
                  obtain rfl := Option.some.inj H
                  have hnb27 := NB145_146.out
                  have hnc27 := NB146_145.out
                  have hcz28_0 : wc.cell? ⟨gb145, 0, none⟩ = some (.int .u8 a1_0) := (blk_cell BK145.out 0).trans rfl
                  have hcz28_1 : wc.cell? ⟨gb145, 1, none⟩ = some (.int .i64 a1_1) := (blk_cell BK145.out 1).trans rfl
                  have hcz28_2 : wc.cell? ⟨gb145, 2, none⟩ = some (.string a1_2) := (blk_cell BK145.out 2).trans rfl
                  have hfz28_0 := blk_frozen BK145.out 0
                  have hfz28_1 := blk_frozen BK145.out 1
                  have hfz28_2 := blk_frozen BK145.out 2
                  have hcz29_0 : wc.cell? ⟨gb146, 0, none⟩ = some (.int .u8 a2_0) := (blk_cell BK146.out 0).trans rfl
                  have hcz29_1 : wc.cell? ⟨gb146, 1, none⟩ = some (.int .i64 a2_1) := (blk_cell BK146.out 1).trans rfl
                  have hcz29_2 : wc.cell? ⟨gb146, 2, none⟩ = some (.string a2_2) := (blk_cell BK146.out 2).trans rfl
                  have hfz29_0 := blk_frozen BK146.out 0
                  have hfz29_1 := blk_frozen BK146.out 1
                  have hfz29_2 := blk_frozen BK146.out 2
                  go_wp2_with (first | ((with_reducible refine gate_callee (f := 39) rfl ?_); refine goesL_ (some 30) rfl rfl Try.func39 (by kernel_rfl) rfl #[.agg #[.int .u8 a1_0, .int .i64 a1_1, .string a1_2], .agg #[.int .u8 a2_0, .int .i64 a2_1, .string a2_2]] rfl (by (try simp only [List.map_toArray, List.map_cons, List.map_nil]); first | done | rfl | (simp only [List.length_drop, List.length_take]; rfl)) ?_; (with_reducible refine (rowlockref01_Less.calls kj13 a1_0 a1_1 a1_2 a2_0 a2_1 a2_2 true _ A23.out).mono ?_); rintro e w30 ⟨rfl, hb⟩; refine ⟨_, rfl, ?_⟩; have n0_ := Aside0.mk (blk_below (g := gb145) (o := .cells #[.int .u8 a1_0, .int .i64 a1_1, .string a1_2] 36 (0, 0)) (by (with_reducible repeat (first | refine blk_drewN ?_ _ | refine blk_drew ?_ | refine blk_alloc ?_ _)); exact BK145.out) hb); have n1_ := Aside0.mk (blk_below (g := gb146) (o := .cells #[.int .u8 a2_0, .int .i64 a2_1, .string a2_2] 36 (0, 0)) (by (with_reducible repeat (first | refine blk_drewN ?_ _ | refine blk_drew ?_ | refine blk_alloc ?_ _)); exact BK146.out) hb); have n2_ := Aside0.mk (below_step (by repeat (first | (with_reducible first | exact HB.out | apply below_alloc | apply pw_below_drewN | apply below_drew1 | refine below_set ?_ GE145.out | refine below_set ?_ GE146.out) | exact HB.out)) hb); clear BK145; clear BK146; clear HB; have BK145 := n0_; have BK146 := n1_; have HB := n2_; clear n0_ n1_ n2_; (try clear hb); (try clear hb2); (try clear hk); (try clear hi); have hcz31_0 : w30.cell? ⟨gb146, 0, none⟩ = some (.int .u8 a2_0) := (blk_cell BK146.out 0).trans rfl; have hcz31_1 : w30.cell? ⟨gb146, 1, none⟩ = some (.int .i64 a2_1) := (blk_cell BK146.out 1).trans rfl; have hcz31_2 : w30.cell? ⟨gb146, 2, none⟩ = some (.string a2_2) := (blk_cell BK146.out 2).trans rfl; have hfz31_0 := blk_frozen BK146.out 0; have hfz31_1 := blk_frozen BK146.out 1; have hfz31_2 := blk_frozen BK146.out 2; have hcz32_0 : w30.cell? ⟨gb145, 0, none⟩ = some (.int .u8 a1_0) := (blk_cell BK145.out 0).trans rfl; have hcz32_1 : w30.cell? ⟨gb145, 1, none⟩ = some (.int .i64 a1_1) := (blk_cell BK145.out 1).trans rfl; have hcz32_2 : w30.cell? ⟨gb145, 2, none⟩ = some (.string a1_2) := (blk_cell BK145.out 2).trans rfl; have hfz32_0 := blk_frozen BK145.out 0; have hfz32_1 := blk_frozen BK145.out 1; have hfz32_2 := blk_frozen BK145.out 2) | ((with_reducible refine gate_callee (f := 39) rfl ?_); refine goesL_ (some 33) rfl rfl Try.func39 (by kernel_rfl) rfl #[.agg #[.int .u8 a2_0, .int .i64 a2_1, .string a2_2], .agg #[.int .u8 a1_0, .int .i64 a1_1, .string a1_2]] rfl (by (try simp only [List.map_toArray, List.map_cons, List.map_nil]); first | done | rfl | (simp only [List.length_drop, List.length_take]; rfl)) ?_; (with_reducible refine (rowlockref01_Less.calls kj13 a2_0 a2_1 a2_2 a1_0 a1_1 a1_2 t148 _ A24.out).mono ?_); rintro e w33 ⟨rfl, hb⟩; refine ⟨_, rfl, ?_⟩; have n0_ := Aside0.mk (blk_below (g := gb145) (o := .cells #[.int .u8 a1_0, .int .i64 a1_1, .string a1_2] 36 (0, 0)) (by (with_reducible repeat (first | refine blk_drewN ?_ _ | refine blk_drew ?_ | refine blk_alloc ?_ _)); exact BK145.out) hb); have n1_ := Aside0.mk (blk_below (g := gb146) (o := .cells #[.int .u8 a2_0, .int .i64 a2_1, .string a2_2] 36 (0, 0)) (by (with_reducible repeat (first | refine blk_drewN ?_ _ | refine blk_drew ?_ | refine blk_alloc ?_ _)); exact BK146.out) hb); have n2_ := Aside0.mk (below_step (by repeat (first | (with_reducible first | exact HB.out | apply below_alloc | apply pw_below_drewN | apply below_drew1 | refine below_set ?_ GE145.out | refine below_set ?_ GE146.out) | exact HB.out)) hb); clear BK145; clear BK146; clear HB; have BK145 := n0_; have BK146 := n1_; have HB := n2_; clear n0_ n1_ n2_; (try clear hb); (try clear hb2); (try clear hk); (try clear hi)))
                  go_ret
                  exact ⟨by first | rfl | (simp [errW_none, errW_some] <;> rfl) | (simp [*, errW_none, errW_some] <;> rfl), by repeat (first | (with_reducible first | exact HB.out | apply below_alloc | apply pw_below_drewN | apply below_drew1 | refine below_set ?_ GE145.out | refine below_set ?_ GE146.out) | exact HB.out)⟩
                · replace c26 := Bool.eq_false_iff.mpr c26
                  subst c26
                  have H1 : (if t148 = true then (some 0) else (some 3)) = some r := by rw [if_neg (show ¬ (false = true) by decide)] at H; exact H
                  clear H
                  have H := H1
                  clear H1
                  by_cases c34 : t148 = true
                  · subst c34
                    have H1 : (some 0) = some r := by rw [if_pos rfl] at H; exact H
                    clear H
                    have H := H1
                    clear H1
                    obtain rfl := Option.some.inj H
                    have hnb35 := NB145_146.out
                    have hnc35 := NB146_145.out
                    have hcz36_0 : wc.cell? ⟨gb145, 0, none⟩ = some (.int .u8 a1_0) := (blk_cell BK145.out 0).trans rfl
                    have hcz36_1 : wc.cell? ⟨gb145, 1, none⟩ = some (.int .i64 a1_1) := (blk_cell BK145.out 1).trans rfl
                    have hcz36_2 : wc.cell? ⟨gb145, 2, none⟩ = some (.string a1_2) := (blk_cell BK145.out 2).trans rfl
                    have hfz36_0 := blk_frozen BK145.out 0
                    have hfz36_1 := blk_frozen BK145.out 1
                    have hfz36_2 := blk_frozen BK145.out 2
                    have hcz37_0 : wc.cell? ⟨gb146, 0, none⟩ = some (.int .u8 a2_0) := (blk_cell BK146.out 0).trans rfl
                    have hcz37_1 : wc.cell? ⟨gb146, 1, none⟩ = some (.int .i64 a2_1) := (blk_cell BK146.out 1).trans rfl
                    have hcz37_2 : wc.cell? ⟨gb146, 2, none⟩ = some (.string a2_2) := (blk_cell BK146.out 2).trans rfl
                    have hfz37_0 := blk_frozen BK146.out 0
                    have hfz37_1 := blk_frozen BK146.out 1
                    have hfz37_2 := blk_frozen BK146.out 2
                    go_wp2_with (first | ((with_reducible refine gate_callee (f := 39) rfl ?_); refine goesL_ (some 30) rfl rfl Try.func39 (by kernel_rfl) rfl #[.agg #[.int .u8 a1_0, .int .i64 a1_1, .string a1_2], .agg #[.int .u8 a2_0, .int .i64 a2_1, .string a2_2]] rfl (by (try simp only [List.map_toArray, List.map_cons, List.map_nil]); first | done | rfl | (simp only [List.length_drop, List.length_take]; rfl)) ?_; (with_reducible refine (rowlockref01_Less.calls kj13 a1_0 a1_1 a1_2 a2_0 a2_1 a2_2 false _ A23.out).mono ?_); rintro e w38 ⟨rfl, hb⟩; refine ⟨_, rfl, ?_⟩; have n0_ := Aside0.mk (blk_below (g := gb145) (o := .cells #[.int .u8 a1_0, .int .i64 a1_1, .string a1_2] 36 (0, 0)) (by (with_reducible repeat (first | refine blk_drewN ?_ _ | refine blk_drew ?_ | refine blk_alloc ?_ _)); exact BK145.out) hb); have n1_ := Aside0.mk (blk_below (g := gb146) (o := .cells #[.int .u8 a2_0, .int .i64 a2_1, .string a2_2] 36 (0, 0)) (by (with_reducible repeat (first | refine blk_drewN ?_ _ | refine blk_drew ?_ | refine blk_alloc ?_ _)); exact BK146.out) hb); have n2_ := Aside0.mk (below_step (by repeat (first | (with_reducible first | exact HB.out | apply below_alloc | apply pw_below_drewN | apply below_drew1 | refine below_set ?_ GE145.out | refine below_set ?_ GE146.out) | exact HB.out)) hb); clear BK145; clear BK146; clear HB; have BK145 := n0_; have BK146 := n1_; have HB := n2_; clear n0_ n1_ n2_; (try clear hb); (try clear hb2); (try clear hk); (try clear hi); have hcz39_0 : w38.cell? ⟨gb146, 0, none⟩ = some (.int .u8 a2_0) := (blk_cell BK146.out 0).trans rfl; have hcz39_1 : w38.cell? ⟨gb146, 1, none⟩ = some (.int .i64 a2_1) := (blk_cell BK146.out 1).trans rfl; have hcz39_2 : w38.cell? ⟨gb146, 2, none⟩ = some (.string a2_2) := (blk_cell BK146.out 2).trans rfl; have hfz39_0 := blk_frozen BK146.out 0; have hfz39_1 := blk_frozen BK146.out 1; have hfz39_2 := blk_frozen BK146.out 2; have hcz40_0 : w38.cell? ⟨gb145, 0, none⟩ = some (.int .u8 a1_0) := (blk_cell BK145.out 0).trans rfl; have hcz40_1 : w38.cell? ⟨gb145, 1, none⟩ = some (.int .i64 a1_1) := (blk_cell BK145.out 1).trans rfl; have hcz40_2 : w38.cell? ⟨gb145, 2, none⟩ = some (.string a1_2) := (blk_cell BK145.out 2).trans rfl; have hfz40_0 := blk_frozen BK145.out 0; have hfz40_1 := blk_frozen BK145.out 1; have hfz40_2 := blk_frozen BK145.out 2) | ((with_reducible refine gate_callee (f := 39) rfl ?_); refine goesL_ (some 33) rfl rfl Try.func39 (by kernel_rfl) rfl #[.agg #[.int .u8 a2_0, .int .i64 a2_1, .string a2_2], .agg #[.int .u8 a1_0, .int .i64 a1_1, .string a1_2]] rfl (by (try simp only [List.map_toArray, List.map_cons, List.map_nil]); first | done | rfl | (simp only [List.length_drop, List.length_take]; rfl)) ?_; (with_reducible refine (rowlockref01_Less.calls kj13 a2_0 a2_1 a2_2 a1_0 a1_1 a1_2 true _ A24.out).mono ?_); rintro e w41 ⟨rfl, hb⟩; refine ⟨_, rfl, ?_⟩; have n0_ := Aside0.mk (blk_below (g := gb145) (o := .cells #[.int .u8 a1_0, .int .i64 a1_1, .string a1_2] 36 (0, 0)) (by (with_reducible repeat (first | refine blk_drewN ?_ _ | refine blk_drew ?_ | refine blk_alloc ?_ _)); exact BK145.out) hb); have n1_ := Aside0.mk (blk_below (g := gb146) (o := .cells #[.int .u8 a2_0, .int .i64 a2_1, .string a2_2] 36 (0, 0)) (by (with_reducible repeat (first | refine blk_drewN ?_ _ | refine blk_drew ?_ | refine blk_alloc ?_ _)); exact BK146.out) hb); have n2_ := Aside0.mk (below_step (by repeat (first | (with_reducible first | exact HB.out | apply below_alloc | apply pw_below_drewN | apply below_drew1 | refine below_set ?_ GE145.out | refine below_set ?_ GE146.out) | exact HB.out)) hb); clear BK145; clear BK146; clear HB; have BK145 := n0_; have BK146 := n1_; have HB := n2_; clear n0_ n1_ n2_; (try clear hb); (try clear hb2); (try clear hk); (try clear hi)))
                    go_ret
                    exact ⟨by first | rfl | (simp [errW_none, errW_some] <;> rfl) | (simp [*, errW_none, errW_some] <;> rfl), by repeat (first | (with_reducible first | exact HB.out | apply below_alloc | apply pw_below_drewN | apply below_drew1 | refine below_set ?_ GE145.out | refine below_set ?_ GE146.out) | exact HB.out)⟩
                  · replace c34 := Bool.eq_false_iff.mpr c34
                    subst c34
                    have H1 : (some 3) = some r := by rw [if_neg (show ¬ (false = true) by decide)] at H; exact H
                    clear H
                    have H := H1
                    clear H1
                    obtain rfl := Option.some.inj H
                    have hnb42 := NB145_146.out
                    have hnc42 := NB146_145.out
                    have hcz43_0 : wc.cell? ⟨gb145, 0, none⟩ = some (.int .u8 a1_0) := (blk_cell BK145.out 0).trans rfl
                    have hcz43_1 : wc.cell? ⟨gb145, 1, none⟩ = some (.int .i64 a1_1) := (blk_cell BK145.out 1).trans rfl
                    have hcz43_2 : wc.cell? ⟨gb145, 2, none⟩ = some (.string a1_2) := (blk_cell BK145.out 2).trans rfl
                    have hfz43_0 := blk_frozen BK145.out 0
                    have hfz43_1 := blk_frozen BK145.out 1
                    have hfz43_2 := blk_frozen BK145.out 2
                    have hcz44_0 : wc.cell? ⟨gb146, 0, none⟩ = some (.int .u8 a2_0) := (blk_cell BK146.out 0).trans rfl
                    have hcz44_1 : wc.cell? ⟨gb146, 1, none⟩ = some (.int .i64 a2_1) := (blk_cell BK146.out 1).trans rfl
                    have hcz44_2 : wc.cell? ⟨gb146, 2, none⟩ = some (.string a2_2) := (blk_cell BK146.out 2).trans rfl
                    have hfz44_0 := blk_frozen BK146.out 0
                    have hfz44_1 := blk_frozen BK146.out 1
                    have hfz44_2 := blk_frozen BK146.out 2
                    go_wp2_with (first | ((with_reducible refine gate_callee (f := 39) rfl ?_); refine goesL_ (some 30) rfl rfl Try.func39 (by kernel_rfl) rfl #[.agg #[.int .u8 a1_0, .int .i64 a1_1, .string a1_2], .agg #[.int .u8 a2_0, .int .i64 a2_1, .string a2_2]] rfl (by (try simp only [List.map_toArray, List.map_cons, List.map_nil]); first | done | rfl | (simp only [List.length_drop, List.length_take]; rfl)) ?_; (with_reducible refine (rowlockref01_Less.calls kj13 a1_0 a1_1 a1_2 a2_0 a2_1 a2_2 false _ A23.out).mono ?_); rintro e w45 ⟨rfl, hb⟩; refine ⟨_, rfl, ?_⟩; have n0_ := Aside0.mk (blk_below (g := gb145) (o := .cells #[.int .u8 a1_0, .int .i64 a1_1, .string a1_2] 36 (0, 0)) (by (with_reducible repeat (first | refine blk_drewN ?_ _ | refine blk_drew ?_ | refine blk_alloc ?_ _)); exact BK145.out) hb); have n1_ := Aside0.mk (blk_below (g := gb146) (o := .cells #[.int .u8 a2_0, .int .i64 a2_1, .string a2_2] 36 (0, 0)) (by (with_reducible repeat (first | refine blk_drewN ?_ _ | refine blk_drew ?_ | refine blk_alloc ?_ _)); exact BK146.out) hb); have n2_ := Aside0.mk (below_step (by repeat (first | (with_reducible first | exact HB.out | apply below_alloc | apply pw_below_drewN | apply below_drew1 | refine below_set ?_ GE145.out | refine below_set ?_ GE146.out) | exact HB.out)) hb); clear BK145; clear BK146; clear HB; have BK145 := n0_; have BK146 := n1_; have HB := n2_; clear n0_ n1_ n2_; (try clear hb); (try clear hb2); (try clear hk); (try clear hi); have hcz46_0 : w45.cell? ⟨gb146, 0, none⟩ = some (.int .u8 a2_0) := (blk_cell BK146.out 0).trans rfl; have hcz46_1 : w45.cell? ⟨gb146, 1, none⟩ = some (.int .i64 a2_1) := (blk_cell BK146.out 1).trans rfl; have hcz46_2 : w45.cell? ⟨gb146, 2, none⟩ = some (.string a2_2) := (blk_cell BK146.out 2).trans rfl; have hfz46_0 := blk_frozen BK146.out 0; have hfz46_1 := blk_frozen BK146.out 1; have hfz46_2 := blk_frozen BK146.out 2; have hcz47_0 : w45.cell? ⟨gb145, 0, none⟩ = some (.int .u8 a1_0) := (blk_cell BK145.out 0).trans rfl; have hcz47_1 : w45.cell? ⟨gb145, 1, none⟩ = some (.int .i64 a1_1) := (blk_cell BK145.out 1).trans rfl; have hcz47_2 : w45.cell? ⟨gb145, 2, none⟩ = some (.string a1_2) := (blk_cell BK145.out 2).trans rfl; have hfz47_0 := blk_frozen BK145.out 0; have hfz47_1 := blk_frozen BK145.out 1; have hfz47_2 := blk_frozen BK145.out 2) | ((with_reducible refine gate_callee (f := 39) rfl ?_); refine goesL_ (some 33) rfl rfl Try.func39 (by kernel_rfl) rfl #[.agg #[.int .u8 a2_0, .int .i64 a2_1, .string a2_2], .agg #[.int .u8 a1_0, .int .i64 a1_1, .string a1_2]] rfl (by (try simp only [List.map_toArray, List.map_cons, List.map_nil]); first | done | rfl | (simp only [List.length_drop, List.length_take]; rfl)) ?_; (with_reducible refine (rowlockref01_Less.calls kj13 a2_0 a2_1 a2_2 a1_0 a1_1 a1_2 false _ A24.out).mono ?_); rintro e w48 ⟨rfl, hb⟩; refine ⟨_, rfl, ?_⟩; have n0_ := Aside0.mk (blk_below (g := gb145) (o := .cells #[.int .u8 a1_0, .int .i64 a1_1, .string a1_2] 36 (0, 0)) (by (with_reducible repeat (first | refine blk_drewN ?_ _ | refine blk_drew ?_ | refine blk_alloc ?_ _)); exact BK145.out) hb); have n1_ := Aside0.mk (blk_below (g := gb146) (o := .cells #[.int .u8 a2_0, .int .i64 a2_1, .string a2_2] 36 (0, 0)) (by (with_reducible repeat (first | refine blk_drewN ?_ _ | refine blk_drew ?_ | refine blk_alloc ?_ _)); exact BK146.out) hb); have n2_ := Aside0.mk (below_step (by repeat (first | (with_reducible first | exact HB.out | apply below_alloc | apply pw_below_drewN | apply below_drew1 | refine below_set ?_ GE145.out | refine below_set ?_ GE146.out) | exact HB.out)) hb); clear BK145; clear BK146; clear HB; have BK145 := n0_; have BK146 := n1_; have HB := n2_; clear n0_ n1_ n2_; (try clear hb); (try clear hb2); (try clear hk); (try clear hi)))
                    go_ret
                    exact ⟨by first | rfl | (simp [errW_none, errW_some] <;> rfl) | (simp [*, errW_none, errW_some] <;> rfl), by repeat (first | (with_reducible first | exact HB.out | apply below_alloc | apply pw_below_drewN | apply below_drew1 | refine below_set ?_ GE145.out | refine below_set ?_ GE146.out) | exact HB.out)⟩
              · rw [if_neg c25] at H
                have c25b0 : (a0.toList == ([61] : List UInt8)) = false := beq_eq_false_iff_ne.mpr c25
                have c25b1 : (a0.toList != ([61] : List UInt8)) = true := bne_iff_ne.mpr c25
                by_cases c49 : a0.toList = ([60, 62] : List UInt8)
                · rw [if_pos c49] at H
                  have c49b0 : (a0.toList == ([60, 62] : List UInt8)) = true := beq_iff_eq.mpr c49
                  have c49b1 : (a0.toList != ([60, 62] : List UInt8)) = false := bne_eq_false_iff_eq.mpr c49
                  clear c49
                  by_cases c50 : t147 = true
                  · subst c50
                    have H1 : (some 3) = some r := by rw [if_pos rfl] at H; exact H
                    clear H
                    have H := H1
                    clear H1
                    obtain rfl := Option.some.inj H
                    have hnb51 := NB145_146.out
                    have hnc51 := NB146_145.out
                    have hcz52_0 : wc.cell? ⟨gb145, 0, none⟩ = some (.int .u8 a1_0) := (blk_cell BK145.out 0).trans rfl
                    have hcz52_1 : wc.cell? ⟨gb145, 1, none⟩ = some (.int .i64 a1_1) := (blk_cell BK145.out 1).trans rfl
                    have hcz52_2 : wc.cell? ⟨gb145, 2, none⟩ = some (.string a1_2) := (blk_cell BK145.out 2).trans rfl
                    have hfz52_0 := blk_frozen BK145.out 0
                    have hfz52_1 := blk_frozen BK145.out 1
                    have hfz52_2 := blk_frozen BK145.out 2
                    have hcz53_0 : wc.cell? ⟨gb146, 0, none⟩ = some (.int .u8 a2_0) := (blk_cell BK146.out 0).trans rfl
                    have hcz53_1 : wc.cell? ⟨gb146, 1, none⟩ = some (.int .i64 a2_1) := (blk_cell BK146.out 1).trans rfl
                    have hcz53_2 : wc.cell? ⟨gb146, 2, none⟩ = some (.string a2_2) := (blk_cell BK146.out 2).trans rfl
                    have hfz53_0 := blk_frozen BK146.out 0
                    have hfz53_1 := blk_frozen BK146.out 1
                    have hfz53_2 := blk_frozen BK146.out 2
                    go_wp2_with (first | ((with_reducible refine gate_callee (f := 39) rfl ?_); refine goesL_ (some 30) rfl rfl Try.func39 (by kernel_rfl) rfl #[.agg #[.int .u8 a1_0, .int .i64 a1_1, .string a1_2], .agg #[.int .u8 a2_0, .int .i64 a2_1, .string a2_2]] rfl (by (try simp only [List.map_toArray, List.map_cons, List.map_nil]); first | done | rfl | (simp only [List.length_drop, List.length_take]; rfl)) ?_; (with_reducible refine (rowlockref01_Less.calls kj13 a1_0 a1_1 a1_2 a2_0 a2_1 a2_2 true _ A23.out).mono ?_); rintro e w54 ⟨rfl, hb⟩; refine ⟨_, rfl, ?_⟩; have n0_ := Aside0.mk (blk_below (g := gb145) (o := .cells #[.int .u8 a1_0, .int .i64 a1_1, .string a1_2] 36 (0, 0)) (by (with_reducible repeat (first | refine blk_drewN ?_ _ | refine blk_drew ?_ | refine blk_alloc ?_ _)); exact BK145.out) hb); have n1_ := Aside0.mk (blk_below (g := gb146) (o := .cells #[.int .u8 a2_0, .int .i64 a2_1, .string a2_2] 36 (0, 0)) (by (with_reducible repeat (first | refine blk_drewN ?_ _ | refine blk_drew ?_ | refine blk_alloc ?_ _)); exact BK146.out) hb); have n2_ := Aside0.mk (below_step (by repeat (first | (with_reducible first | exact HB.out | apply below_alloc | apply pw_below_drewN | apply below_drew1 | refine below_set ?_ GE145.out | refine below_set ?_ GE146.out) | exact HB.out)) hb); clear BK145; clear BK146; clear HB; have BK145 := n0_; have BK146 := n1_; have HB := n2_; clear n0_ n1_ n2_; (try clear hb); (try clear hb2); (try clear hk); (try clear hi); have hcz55_0 : w54.cell? ⟨gb146, 0, none⟩ = some (.int .u8 a2_0) := (blk_cell BK146.out 0).trans rfl; have hcz55_1 : w54.cell? ⟨gb146, 1, none⟩ = some (.int .i64 a2_1) := (blk_cell BK146.out 1).trans rfl; have hcz55_2 : w54.cell? ⟨gb146, 2, none⟩ = some (.string a2_2) := (blk_cell BK146.out 2).trans rfl; have hfz55_0 := blk_frozen BK146.out 0; have hfz55_1 := blk_frozen BK146.out 1; have hfz55_2 := blk_frozen BK146.out 2; have hcz56_0 : w54.cell? ⟨gb145, 0, none⟩ = some (.int .u8 a1_0) := (blk_cell BK145.out 0).trans rfl; have hcz56_1 : w54.cell? ⟨gb145, 1, none⟩ = some (.int .i64 a1_1) := (blk_cell BK145.out 1).trans rfl; have hcz56_2 : w54.cell? ⟨gb145, 2, none⟩ = some (.string a1_2) := (blk_cell BK145.out 2).trans rfl; have hfz56_0 := blk_frozen BK145.out 0; have hfz56_1 := blk_frozen BK145.out 1; have hfz56_2 := blk_frozen BK145.out 2) | ((with_reducible refine gate_callee (f := 39) rfl ?_); refine goesL_ (some 33) rfl rfl Try.func39 (by kernel_rfl) rfl #[.agg #[.int .u8 a2_0, .int .i64 a2_1, .string a2_2], .agg #[.int .u8 a1_0, .int .i64 a1_1, .string a1_2]] rfl (by (try simp only [List.map_toArray, List.map_cons, List.map_nil]); first | done | rfl | (simp only [List.length_drop, List.length_take]; rfl)) ?_; (with_reducible refine (rowlockref01_Less.calls kj13 a2_0 a2_1 a2_2 a1_0 a1_1 a1_2 t148 _ A24.out).mono ?_); rintro e w57 ⟨rfl, hb⟩; refine ⟨_, rfl, ?_⟩; have n0_ := Aside0.mk (blk_below (g := gb145) (o := .cells #[.int .u8 a1_0, .int .i64 a1_1, .string a1_2] 36 (0, 0)) (by (with_reducible repeat (first | refine blk_drewN ?_ _ | refine blk_drew ?_ | refine blk_alloc ?_ _)); exact BK145.out) hb); have n1_ := Aside0.mk (blk_below (g := gb146) (o := .cells #[.int .u8 a2_0, .int .i64 a2_1, .string a2_2] 36 (0, 0)) (by (with_reducible repeat (first | refine blk_drewN ?_ _ | refine blk_drew ?_ | refine blk_alloc ?_ _)); exact BK146.out) hb); have n2_ := Aside0.mk (below_step (by repeat (first | (with_reducible first | exact HB.out | apply below_alloc | apply pw_below_drewN | apply below_drew1 | refine below_set ?_ GE145.out | refine below_set ?_ GE146.out) | exact HB.out)) hb); clear BK145; clear BK146; clear HB; have BK145 := n0_; have BK146 := n1_; have HB := n2_; clear n0_ n1_ n2_; (try clear hb); (try clear hb2); (try clear hk); (try clear hi)))
                    go_ret
                    exact ⟨by first | rfl | (simp [errW_none, errW_some] <;> rfl) | (simp [*, errW_none, errW_some] <;> rfl), by repeat (first | (with_reducible first | exact HB.out | apply below_alloc | apply pw_below_drewN | apply below_drew1 | refine below_set ?_ GE145.out | refine below_set ?_ GE146.out) | exact HB.out)⟩
                  · replace c50 := Bool.eq_false_iff.mpr c50
                    subst c50
                    have H1 : (if t148 = true then (some 3) else (some 0)) = some r := by rw [if_neg (show ¬ (false = true) by decide)] at H; exact H
                    clear H
                    have H := H1
                    clear H1
                    by_cases c58 : t148 = true
                    · subst c58
                      have H1 : (some 3) = some r := by rw [if_pos rfl] at H; exact H
                      clear H
                      have H := H1
                      clear H1
                      obtain rfl := Option.some.inj H
                      have hnb59 := NB145_146.out
                      have hnc59 := NB146_145.out
                      have hcz60_0 : wc.cell? ⟨gb145, 0, none⟩ = some (.int .u8 a1_0) := (blk_cell BK145.out 0).trans rfl
                      have hcz60_1 : wc.cell? ⟨gb145, 1, none⟩ = some (.int .i64 a1_1) := (blk_cell BK145.out 1).trans rfl
                      have hcz60_2 : wc.cell? ⟨gb145, 2, none⟩ = some (.string a1_2) := (blk_cell BK145.out 2).trans rfl
                      have hfz60_0 := blk_frozen BK145.out 0
                      have hfz60_1 := blk_frozen BK145.out 1
                      have hfz60_2 := blk_frozen BK145.out 2
                      have hcz61_0 : wc.cell? ⟨gb146, 0, none⟩ = some (.int .u8 a2_0) := (blk_cell BK146.out 0).trans rfl
                      have hcz61_1 : wc.cell? ⟨gb146, 1, none⟩ = some (.int .i64 a2_1) := (blk_cell BK146.out 1).trans rfl
                      have hcz61_2 : wc.cell? ⟨gb146, 2, none⟩ = some (.string a2_2) := (blk_cell BK146.out 2).trans rfl
                      have hfz61_0 := blk_frozen BK146.out 0
                      have hfz61_1 := blk_frozen BK146.out 1
                      have hfz61_2 := blk_frozen BK146.out 2
                      go_wp2_with (first | ((with_reducible refine gate_callee (f := 39) rfl ?_); refine goesL_ (some 30) rfl rfl Try.func39 (by kernel_rfl) rfl #[.agg #[.int .u8 a1_0, .int .i64 a1_1, .string a1_2], .agg #[.int .u8 a2_0, .int .i64 a2_1, .string a2_2]] rfl (by (try simp only [List.map_toArray, List.map_cons, List.map_nil]); first | done | rfl | (simp only [List.length_drop, List.length_take]; rfl)) ?_; (with_reducible refine (rowlockref01_Less.calls kj13 a1_0 a1_1 a1_2 a2_0 a2_1 a2_2 false _ A23.out).mono ?_); rintro e w62 ⟨rfl, hb⟩; refine ⟨_, rfl, ?_⟩; have n0_ := Aside0.mk (blk_below (g := gb145) (o := .cells #[.int .u8 a1_0, .int .i64 a1_1, .string a1_2] 36 (0, 0)) (by (with_reducible repeat (first | refine blk_drewN ?_ _ | refine blk_drew ?_ | refine blk_alloc ?_ _)); exact BK145.out) hb); have n1_ := Aside0.mk (blk_below (g := gb146) (o := .cells #[.int .u8 a2_0, .int .i64 a2_1, .string a2_2] 36 (0, 0)) (by (with_reducible repeat (first | refine blk_drewN ?_ _ | refine blk_drew ?_ | refine blk_alloc ?_ _)); exact BK146.out) hb); have n2_ := Aside0.mk (below_step (by repeat (first | (with_reducible first | exact HB.out | apply below_alloc | apply pw_below_drewN | apply below_drew1 | refine below_set ?_ GE145.out | refine below_set ?_ GE146.out) | exact HB.out)) hb); clear BK145; clear BK146; clear HB; have BK145 := n0_; have BK146 := n1_; have HB := n2_; clear n0_ n1_ n2_; (try clear hb); (try clear hb2); (try clear hk); (try clear hi); have hcz63_0 : w62.cell? ⟨gb146, 0, none⟩ = some (.int .u8 a2_0) := (blk_cell BK146.out 0).trans rfl; have hcz63_1 : w62.cell? ⟨gb146, 1, none⟩ = some (.int .i64 a2_1) := (blk_cell BK146.out 1).trans rfl; have hcz63_2 : w62.cell? ⟨gb146, 2, none⟩ = some (.string a2_2) := (blk_cell BK146.out 2).trans rfl; have hfz63_0 := blk_frozen BK146.out 0; have hfz63_1 := blk_frozen BK146.out 1; have hfz63_2 := blk_frozen BK146.out 2; have hcz64_0 : w62.cell? ⟨gb145, 0, none⟩ = some (.int .u8 a1_0) := (blk_cell BK145.out 0).trans rfl; have hcz64_1 : w62.cell? ⟨gb145, 1, none⟩ = some (.int .i64 a1_1) := (blk_cell BK145.out 1).trans rfl; have hcz64_2 : w62.cell? ⟨gb145, 2, none⟩ = some (.string a1_2) := (blk_cell BK145.out 2).trans rfl; have hfz64_0 := blk_frozen BK145.out 0; have hfz64_1 := blk_frozen BK145.out 1; have hfz64_2 := blk_frozen BK145.out 2) | ((with_reducible refine gate_callee (f := 39) rfl ?_); refine goesL_ (some 33) rfl rfl Try.func39 (by kernel_rfl) rfl #[.agg #[.int .u8 a2_0, .int .i64 a2_1, .string a2_2], .agg #[.int .u8 a1_0, .int .i64 a1_1, .string a1_2]] rfl (by (try simp only [List.map_toArray, List.map_cons, List.map_nil]); first | done | rfl | (simp only [List.length_drop, List.length_take]; rfl)) ?_; (with_reducible refine (rowlockref01_Less.calls kj13 a2_0 a2_1 a2_2 a1_0 a1_1 a1_2 true _ A24.out).mono ?_); rintro e w65 ⟨rfl, hb⟩; refine ⟨_, rfl, ?_⟩; have n0_ := Aside0.mk (blk_below (g := gb145) (o := .cells #[.int .u8 a1_0, .int .i64 a1_1, .string a1_2] 36 (0, 0)) (by (with_reducible repeat (first | refine blk_drewN ?_ _ | refine blk_drew ?_ | refine blk_alloc ?_ _)); exact BK145.out) hb); have n1_ := Aside0.mk (blk_below (g := gb146) (o := .cells #[.int .u8 a2_0, .int .i64 a2_1, .string a2_2] 36 (0, 0)) (by (with_reducible repeat (first | refine blk_drewN ?_ _ | refine blk_drew ?_ | refine blk_alloc ?_ _)); exact BK146.out) hb); have n2_ := Aside0.mk (below_step (by repeat (first | (with_reducible first | exact HB.out | apply below_alloc | apply pw_below_drewN | apply below_drew1 | refine below_set ?_ GE145.out | refine below_set ?_ GE146.out) | exact HB.out)) hb); clear BK145; clear BK146; clear HB; have BK145 := n0_; have BK146 := n1_; have HB := n2_; clear n0_ n1_ n2_; (try clear hb); (try clear hb2); (try clear hk); (try clear hi)))
                      go_ret
                      exact ⟨by first | rfl | (simp [errW_none, errW_some] <;> rfl) | (simp [*, errW_none, errW_some] <;> rfl), by repeat (first | (with_reducible first | exact HB.out | apply below_alloc | apply pw_below_drewN | apply below_drew1 | refine below_set ?_ GE145.out | refine below_set ?_ GE146.out) | exact HB.out)⟩
                    · replace c58 := Bool.eq_false_iff.mpr c58
                      subst c58
                      have H1 : (some 0) = some r := by rw [if_neg (show ¬ (false = true) by decide)] at H; exact H
                      clear H
                      have H := H1
                      clear H1
                      obtain rfl := Option.some.inj H
                      have hnb66 := NB145_146.out
                      have hnc66 := NB146_145.out
                      have hcz67_0 : wc.cell? ⟨gb145, 0, none⟩ = some (.int .u8 a1_0) := (blk_cell BK145.out 0).trans rfl
                      have hcz67_1 : wc.cell? ⟨gb145, 1, none⟩ = some (.int .i64 a1_1) := (blk_cell BK145.out 1).trans rfl
                      have hcz67_2 : wc.cell? ⟨gb145, 2, none⟩ = some (.string a1_2) := (blk_cell BK145.out 2).trans rfl
                      have hfz67_0 := blk_frozen BK145.out 0
                      have hfz67_1 := blk_frozen BK145.out 1
                      have hfz67_2 := blk_frozen BK145.out 2
                      have hcz68_0 : wc.cell? ⟨gb146, 0, none⟩ = some (.int .u8 a2_0) := (blk_cell BK146.out 0).trans rfl
                      have hcz68_1 : wc.cell? ⟨gb146, 1, none⟩ = some (.int .i64 a2_1) := (blk_cell BK146.out 1).trans rfl
                      have hcz68_2 : wc.cell? ⟨gb146, 2, none⟩ = some (.string a2_2) := (blk_cell BK146.out 2).trans rfl
                      have hfz68_0 := blk_frozen BK146.out 0
                      have hfz68_1 := blk_frozen BK146.out 1
                      have hfz68_2 := blk_frozen BK146.out 2
                      go_wp2_with (first | ((with_reducible refine gate_callee (f := 39) rfl ?_); refine goesL_ (some 30) rfl rfl Try.func39 (by kernel_rfl) rfl #[.agg #[.int .u8 a1_0, .int .i64 a1_1, .string a1_2], .agg #[.int .u8 a2_0, .int .i64 a2_1, .string a2_2]] rfl (by (try simp only [List.map_toArray, List.map_cons, List.map_nil]); first | done | rfl | (simp only [List.length_drop, List.length_take]; rfl)) ?_; (with_reducible refine (rowlockref01_Less.calls kj13 a1_0 a1_1 a1_2 a2_0 a2_1 a2_2 false _ A23.out).mono ?_); rintro e w69 ⟨rfl, hb⟩; refine ⟨_, rfl, ?_⟩; have n0_ := Aside0.mk (blk_below (g := gb145) (o := .cells #[.int .u8 a1_0, .int .i64 a1_1, .string a1_2] 36 (0, 0)) (by (with_reducible repeat (first | refine blk_drewN ?_ _ | refine blk_drew ?_ | refine blk_alloc ?_ _)); exact BK145.out) hb); have n1_ := Aside0.mk (blk_below (g := gb146) (o := .cells #[.int .u8 a2_0, .int .i64 a2_1, .string a2_2] 36 (0, 0)) (by (with_reducible repeat (first | refine blk_drewN ?_ _ | refine blk_drew ?_ | refine blk_alloc ?_ _)); exact BK146.out) hb); have n2_ := Aside0.mk (below_step (by repeat (first | (with_reducible first | exact HB.out | apply below_alloc | apply pw_below_drewN | apply below_drew1 | refine below_set ?_ GE145.out | refine below_set ?_ GE146.out) | exact HB.out)) hb); clear BK145; clear BK146; clear HB; have BK145 := n0_; have BK146 := n1_; have HB := n2_; clear n0_ n1_ n2_; (try clear hb); (try clear hb2); (try clear hk); (try clear hi); have hcz70_0 : w69.cell? ⟨gb146, 0, none⟩ = some (.int .u8 a2_0) := (blk_cell BK146.out 0).trans rfl; have hcz70_1 : w69.cell? ⟨gb146, 1, none⟩ = some (.int .i64 a2_1) := (blk_cell BK146.out 1).trans rfl; have hcz70_2 : w69.cell? ⟨gb146, 2, none⟩ = some (.string a2_2) := (blk_cell BK146.out 2).trans rfl; have hfz70_0 := blk_frozen BK146.out 0; have hfz70_1 := blk_frozen BK146.out 1; have hfz70_2 := blk_frozen BK146.out 2; have hcz71_0 : w69.cell? ⟨gb145, 0, none⟩ = some (.int .u8 a1_0) := (blk_cell BK145.out 0).trans rfl; have hcz71_1 : w69.cell? ⟨gb145, 1, none⟩ = some (.int .i64 a1_1) := (blk_cell BK145.out 1).trans rfl; have hcz71_2 : w69.cell? ⟨gb145, 2, none⟩ = some (.string a1_2) := (blk_cell BK145.out 2).trans rfl; have hfz71_0 := blk_frozen BK145.out 0; have hfz71_1 := blk_frozen BK145.out 1; have hfz71_2 := blk_frozen BK145.out 2) | ((with_reducible refine gate_callee (f := 39) rfl ?_); refine goesL_ (some 33) rfl rfl Try.func39 (by kernel_rfl) rfl #[.agg #[.int .u8 a2_0, .int .i64 a2_1, .string a2_2], .agg #[.int .u8 a1_0, .int .i64 a1_1, .string a1_2]] rfl (by (try simp only [List.map_toArray, List.map_cons, List.map_nil]); first | done | rfl | (simp only [List.length_drop, List.length_take]; rfl)) ?_; (with_reducible refine (rowlockref01_Less.calls kj13 a2_0 a2_1 a2_2 a1_0 a1_1 a1_2 false _ A24.out).mono ?_); rintro e w72 ⟨rfl, hb⟩; refine ⟨_, rfl, ?_⟩; have n0_ := Aside0.mk (blk_below (g := gb145) (o := .cells #[.int .u8 a1_0, .int .i64 a1_1, .string a1_2] 36 (0, 0)) (by (with_reducible repeat (first | refine blk_drewN ?_ _ | refine blk_drew ?_ | refine blk_alloc ?_ _)); exact BK145.out) hb); have n1_ := Aside0.mk (blk_below (g := gb146) (o := .cells #[.int .u8 a2_0, .int .i64 a2_1, .string a2_2] 36 (0, 0)) (by (with_reducible repeat (first | refine blk_drewN ?_ _ | refine blk_drew ?_ | refine blk_alloc ?_ _)); exact BK146.out) hb); have n2_ := Aside0.mk (below_step (by repeat (first | (with_reducible first | exact HB.out | apply below_alloc | apply pw_below_drewN | apply below_drew1 | refine below_set ?_ GE145.out | refine below_set ?_ GE146.out) | exact HB.out)) hb); clear BK145; clear BK146; clear HB; have BK145 := n0_; have BK146 := n1_; have HB := n2_; clear n0_ n1_ n2_; (try clear hb); (try clear hb2); (try clear hk); (try clear hi)))
                      go_ret
                      exact ⟨by first | rfl | (simp [errW_none, errW_some] <;> rfl) | (simp [*, errW_none, errW_some] <;> rfl), by repeat (first | (with_reducible first | exact HB.out | apply below_alloc | apply pw_below_drewN | apply below_drew1 | refine below_set ?_ GE145.out | refine below_set ?_ GE146.out) | exact HB.out)⟩
                · rw [if_neg c49] at H
                  have c49b0 : (a0.toList == ([60, 62] : List UInt8)) = false := beq_eq_false_iff_ne.mpr c49
                  have c49b1 : (a0.toList != ([60, 62] : List UInt8)) = true := bne_iff_ne.mpr c49
                  by_cases c73 : a0.toList = ([60] : List UInt8)
                  · rw [if_pos c73] at H
                    have c73b0 : (a0.toList == ([60] : List UInt8)) = true := beq_iff_eq.mpr c73
                    have c73b1 : (a0.toList != ([60] : List UInt8)) = false := bne_eq_false_iff_eq.mpr c73
                    clear c73
                    by_cases c74 : t147 = true
                    · subst c74
                      have H1 : (some 3) = some r := by rw [if_pos rfl] at H; exact H
                      clear H
                      have H := H1
                      clear H1
                      obtain rfl := Option.some.inj H
                      have hnb75 := NB145_146.out
                      have hnc75 := NB146_145.out
                      have hcz76_0 : wc.cell? ⟨gb145, 0, none⟩ = some (.int .u8 a1_0) := (blk_cell BK145.out 0).trans rfl
                      have hcz76_1 : wc.cell? ⟨gb145, 1, none⟩ = some (.int .i64 a1_1) := (blk_cell BK145.out 1).trans rfl
                      have hcz76_2 : wc.cell? ⟨gb145, 2, none⟩ = some (.string a1_2) := (blk_cell BK145.out 2).trans rfl
                      have hfz76_0 := blk_frozen BK145.out 0
                      have hfz76_1 := blk_frozen BK145.out 1
                      have hfz76_2 := blk_frozen BK145.out 2
                      have hcz77_0 : wc.cell? ⟨gb146, 0, none⟩ = some (.int .u8 a2_0) := (blk_cell BK146.out 0).trans rfl
                      have hcz77_1 : wc.cell? ⟨gb146, 1, none⟩ = some (.int .i64 a2_1) := (blk_cell BK146.out 1).trans rfl
                      have hcz77_2 : wc.cell? ⟨gb146, 2, none⟩ = some (.string a2_2) := (blk_cell BK146.out 2).trans rfl
                      have hfz77_0 := blk_frozen BK146.out 0
                      have hfz77_1 := blk_frozen BK146.out 1
                      have hfz77_2 := blk_frozen BK146.out 2
                      go_wp2_with (first | ((with_reducible refine gate_callee (f := 39) rfl ?_); refine goesL_ (some 30) rfl rfl Try.func39 (by kernel_rfl) rfl #[.agg #[.int .u8 a1_0, .int .i64 a1_1, .string a1_2], .agg #[.int .u8 a2_0, .int .i64 a2_1, .string a2_2]] rfl (by (try simp only [List.map_toArray, List.map_cons, List.map_nil]); first | done | rfl | (simp only [List.length_drop, List.length_take]; rfl)) ?_; (with_reducible refine (rowlockref01_Less.calls kj13 a1_0 a1_1 a1_2 a2_0 a2_1 a2_2 true _ A23.out).mono ?_); rintro e w78 ⟨rfl, hb⟩; refine ⟨_, rfl, ?_⟩; have n0_ := Aside0.mk (blk_below (g := gb145) (o := .cells #[.int .u8 a1_0, .int .i64 a1_1, .string a1_2] 36 (0, 0)) (by (with_reducible repeat (first | refine blk_drewN ?_ _ | refine blk_drew ?_ | refine blk_alloc ?_ _)); exact BK145.out) hb); have n1_ := Aside0.mk (blk_below (g := gb146) (o := .cells #[.int .u8 a2_0, .int .i64 a2_1, .string a2_2] 36 (0, 0)) (by (with_reducible repeat (first | refine blk_drewN ?_ _ | refine blk_drew ?_ | refine blk_alloc ?_ _)); exact BK146.out) hb); have n2_ := Aside0.mk (below_step (by repeat (first | (with_reducible first | exact HB.out | apply below_alloc | apply pw_below_drewN | apply below_drew1 | refine below_set ?_ GE145.out | refine below_set ?_ GE146.out) | exact HB.out)) hb); clear BK145; clear BK146; clear HB; have BK145 := n0_; have BK146 := n1_; have HB := n2_; clear n0_ n1_ n2_; (try clear hb); (try clear hb2); (try clear hk); (try clear hi); have hcz79_0 : w78.cell? ⟨gb146, 0, none⟩ = some (.int .u8 a2_0) := (blk_cell BK146.out 0).trans rfl; have hcz79_1 : w78.cell? ⟨gb146, 1, none⟩ = some (.int .i64 a2_1) := (blk_cell BK146.out 1).trans rfl; have hcz79_2 : w78.cell? ⟨gb146, 2, none⟩ = some (.string a2_2) := (blk_cell BK146.out 2).trans rfl; have hfz79_0 := blk_frozen BK146.out 0; have hfz79_1 := blk_frozen BK146.out 1; have hfz79_2 := blk_frozen BK146.out 2; have hcz80_0 : w78.cell? ⟨gb145, 0, none⟩ = some (.int .u8 a1_0) := (blk_cell BK145.out 0).trans rfl; have hcz80_1 : w78.cell? ⟨gb145, 1, none⟩ = some (.int .i64 a1_1) := (blk_cell BK145.out 1).trans rfl; have hcz80_2 : w78.cell? ⟨gb145, 2, none⟩ = some (.string a1_2) := (blk_cell BK145.out 2).trans rfl; have hfz80_0 := blk_frozen BK145.out 0; have hfz80_1 := blk_frozen BK145.out 1; have hfz80_2 := blk_frozen BK145.out 2) | ((with_reducible refine gate_callee (f := 39) rfl ?_); refine goesL_ (some 33) rfl rfl Try.func39 (by kernel_rfl) rfl #[.agg #[.int .u8 a2_0, .int .i64 a2_1, .string a2_2], .agg #[.int .u8 a1_0, .int .i64 a1_1, .string a1_2]] rfl (by (try simp only [List.map_toArray, List.map_cons, List.map_nil]); first | done | rfl | (simp only [List.length_drop, List.length_take]; rfl)) ?_; (with_reducible refine (rowlockref01_Less.calls kj13 a2_0 a2_1 a2_2 a1_0 a1_1 a1_2 t148 _ A24.out).mono ?_); rintro e w81 ⟨rfl, hb⟩; refine ⟨_, rfl, ?_⟩; have n0_ := Aside0.mk (blk_below (g := gb145) (o := .cells #[.int .u8 a1_0, .int .i64 a1_1, .string a1_2] 36 (0, 0)) (by (with_reducible repeat (first | refine blk_drewN ?_ _ | refine blk_drew ?_ | refine blk_alloc ?_ _)); exact BK145.out) hb); have n1_ := Aside0.mk (blk_below (g := gb146) (o := .cells #[.int .u8 a2_0, .int .i64 a2_1, .string a2_2] 36 (0, 0)) (by (with_reducible repeat (first | refine blk_drewN ?_ _ | refine blk_drew ?_ | refine blk_alloc ?_ _)); exact BK146.out) hb); have n2_ := Aside0.mk (below_step (by repeat (first | (with_reducible first | exact HB.out | apply below_alloc | apply pw_below_drewN | apply below_drew1 | refine below_set ?_ GE145.out | refine below_set ?_ GE146.out) | exact HB.out)) hb); clear BK145; clear BK146; clear HB; have BK145 := n0_; have BK146 := n1_; have HB := n2_; clear n0_ n1_ n2_; (try clear hb); (try clear hb2); (try clear hk); (try clear hi)))
                      go_ret
                      exact ⟨by first | rfl | (simp [errW_none, errW_some] <;> rfl) | (simp [*, errW_none, errW_some] <;> rfl), by repeat (first | (with_reducible first | exact HB.out | apply below_alloc | apply pw_below_drewN | apply below_drew1 | refine below_set ?_ GE145.out | refine below_set ?_ GE146.out) | exact HB.out)⟩
                    · replace c74 := Bool.eq_false_iff.mpr c74
                      subst c74
                      have H1 : (some 0) = some r := by rw [if_neg (show ¬ (false = true) by decide)] at H; exact H
                      clear H
                      have H := H1
                      clear H1
                      obtain rfl := Option.some.inj H
                      have hnb82 := NB145_146.out
                      have hnc82 := NB146_145.out
                      have hcz83_0 : wc.cell? ⟨gb145, 0, none⟩ = some (.int .u8 a1_0) := (blk_cell BK145.out 0).trans rfl
                      have hcz83_1 : wc.cell? ⟨gb145, 1, none⟩ = some (.int .i64 a1_1) := (blk_cell BK145.out 1).trans rfl
                      have hcz83_2 : wc.cell? ⟨gb145, 2, none⟩ = some (.string a1_2) := (blk_cell BK145.out 2).trans rfl
                      have hfz83_0 := blk_frozen BK145.out 0
                      have hfz83_1 := blk_frozen BK145.out 1
                      have hfz83_2 := blk_frozen BK145.out 2
                      have hcz84_0 : wc.cell? ⟨gb146, 0, none⟩ = some (.int .u8 a2_0) := (blk_cell BK146.out 0).trans rfl
                      have hcz84_1 : wc.cell? ⟨gb146, 1, none⟩ = some (.int .i64 a2_1) := (blk_cell BK146.out 1).trans rfl
                      have hcz84_2 : wc.cell? ⟨gb146, 2, none⟩ = some (.string a2_2) := (blk_cell BK146.out 2).trans rfl
                      have hfz84_0 := blk_frozen BK146.out 0
                      have hfz84_1 := blk_frozen BK146.out 1
                      have hfz84_2 := blk_frozen BK146.out 2
                      go_wp2_with (first | ((with_reducible refine gate_callee (f := 39) rfl ?_); refine goesL_ (some 30) rfl rfl Try.func39 (by kernel_rfl) rfl #[.agg #[.int .u8 a1_0, .int .i64 a1_1, .string a1_2], .agg #[.int .u8 a2_0, .int .i64 a2_1, .string a2_2]] rfl (by (try simp only [List.map_toArray, List.map_cons, List.map_nil]); first | done | rfl | (simp only [List.length_drop, List.length_take]; rfl)) ?_; (with_reducible refine (rowlockref01_Less.calls kj13 a1_0 a1_1 a1_2 a2_0 a2_1 a2_2 false _ A23.out).mono ?_); rintro e w85 ⟨rfl, hb⟩; refine ⟨_, rfl, ?_⟩; have n0_ := Aside0.mk (blk_below (g := gb145) (o := .cells #[.int .u8 a1_0, .int .i64 a1_1, .string a1_2] 36 (0, 0)) (by (with_reducible repeat (first | refine blk_drewN ?_ _ | refine blk_drew ?_ | refine blk_alloc ?_ _)); exact BK145.out) hb); have n1_ := Aside0.mk (blk_below (g := gb146) (o := .cells #[.int .u8 a2_0, .int .i64 a2_1, .string a2_2] 36 (0, 0)) (by (with_reducible repeat (first | refine blk_drewN ?_ _ | refine blk_drew ?_ | refine blk_alloc ?_ _)); exact BK146.out) hb); have n2_ := Aside0.mk (below_step (by repeat (first | (with_reducible first | exact HB.out | apply below_alloc | apply pw_below_drewN | apply below_drew1 | refine below_set ?_ GE145.out | refine below_set ?_ GE146.out) | exact HB.out)) hb); clear BK145; clear BK146; clear HB; have BK145 := n0_; have BK146 := n1_; have HB := n2_; clear n0_ n1_ n2_; (try clear hb); (try clear hb2); (try clear hk); (try clear hi); have hcz86_0 : w85.cell? ⟨gb146, 0, none⟩ = some (.int .u8 a2_0) := (blk_cell BK146.out 0).trans rfl; have hcz86_1 : w85.cell? ⟨gb146, 1, none⟩ = some (.int .i64 a2_1) := (blk_cell BK146.out 1).trans rfl; have hcz86_2 : w85.cell? ⟨gb146, 2, none⟩ = some (.string a2_2) := (blk_cell BK146.out 2).trans rfl; have hfz86_0 := blk_frozen BK146.out 0; have hfz86_1 := blk_frozen BK146.out 1; have hfz86_2 := blk_frozen BK146.out 2; have hcz87_0 : w85.cell? ⟨gb145, 0, none⟩ = some (.int .u8 a1_0) := (blk_cell BK145.out 0).trans rfl; have hcz87_1 : w85.cell? ⟨gb145, 1, none⟩ = some (.int .i64 a1_1) := (blk_cell BK145.out 1).trans rfl; have hcz87_2 : w85.cell? ⟨gb145, 2, none⟩ = some (.string a1_2) := (blk_cell BK145.out 2).trans rfl; have hfz87_0 := blk_frozen BK145.out 0; have hfz87_1 := blk_frozen BK145.out 1; have hfz87_2 := blk_frozen BK145.out 2) | ((with_reducible refine gate_callee (f := 39) rfl ?_); refine goesL_ (some 33) rfl rfl Try.func39 (by kernel_rfl) rfl #[.agg #[.int .u8 a2_0, .int .i64 a2_1, .string a2_2], .agg #[.int .u8 a1_0, .int .i64 a1_1, .string a1_2]] rfl (by (try simp only [List.map_toArray, List.map_cons, List.map_nil]); first | done | rfl | (simp only [List.length_drop, List.length_take]; rfl)) ?_; (with_reducible refine (rowlockref01_Less.calls kj13 a2_0 a2_1 a2_2 a1_0 a1_1 a1_2 t148 _ A24.out).mono ?_); rintro e w88 ⟨rfl, hb⟩; refine ⟨_, rfl, ?_⟩; have n0_ := Aside0.mk (blk_below (g := gb145) (o := .cells #[.int .u8 a1_0, .int .i64 a1_1, .string a1_2] 36 (0, 0)) (by (with_reducible repeat (first | refine blk_drewN ?_ _ | refine blk_drew ?_ | refine blk_alloc ?_ _)); exact BK145.out) hb); have n1_ := Aside0.mk (blk_below (g := gb146) (o := .cells #[.int .u8 a2_0, .int .i64 a2_1, .string a2_2] 36 (0, 0)) (by (with_reducible repeat (first | refine blk_drewN ?_ _ | refine blk_drew ?_ | refine blk_alloc ?_ _)); exact BK146.out) hb); have n2_ := Aside0.mk (below_step (by repeat (first | (with_reducible first | exact HB.out | apply below_alloc | apply pw_below_drewN | apply below_drew1 | refine below_set ?_ GE145.out | refine below_set ?_ GE146.out) | exact HB.out)) hb); clear BK145; clear BK146; clear HB; have BK145 := n0_; have BK146 := n1_; have HB := n2_; clear n0_ n1_ n2_; (try clear hb); (try clear hb2); (try clear hk); (try clear hi)))
                      go_ret
                      exact ⟨by first | rfl | (simp [errW_none, errW_some] <;> rfl) | (simp [*, errW_none, errW_some] <;> rfl), by repeat (first | (with_reducible first | exact HB.out | apply below_alloc | apply pw_below_drewN | apply below_drew1 | refine below_set ?_ GE145.out | refine below_set ?_ GE146.out) | exact HB.out)⟩
                  · rw [if_neg c73] at H
                    have c73b0 : (a0.toList == ([60] : List UInt8)) = false := beq_eq_false_iff_ne.mpr c73
                    have c73b1 : (a0.toList != ([60] : List UInt8)) = true := bne_iff_ne.mpr c73
                    by_cases c89 : a0.toList = ([60, 61] : List UInt8)
                    · rw [if_pos c89] at H
                      have c89b0 : (a0.toList == ([60, 61] : List UInt8)) = true := beq_iff_eq.mpr c89
                      have c89b1 : (a0.toList != ([60, 61] : List UInt8)) = false := bne_eq_false_iff_eq.mpr c89
                      clear c89
                      by_cases c90 : t148 = true
                      · subst c90
                        have H1 : (some 0) = some r := by rw [if_pos rfl] at H; exact H
                        clear H
                        have H := H1
                        clear H1
                        obtain rfl := Option.some.inj H
                        have hnb91 := NB145_146.out
                        have hnc91 := NB146_145.out
                        have hcz92_0 : wc.cell? ⟨gb145, 0, none⟩ = some (.int .u8 a1_0) := (blk_cell BK145.out 0).trans rfl
                        have hcz92_1 : wc.cell? ⟨gb145, 1, none⟩ = some (.int .i64 a1_1) := (blk_cell BK145.out 1).trans rfl
                        have hcz92_2 : wc.cell? ⟨gb145, 2, none⟩ = some (.string a1_2) := (blk_cell BK145.out 2).trans rfl
                        have hfz92_0 := blk_frozen BK145.out 0
                        have hfz92_1 := blk_frozen BK145.out 1
                        have hfz92_2 := blk_frozen BK145.out 2
                        have hcz93_0 : wc.cell? ⟨gb146, 0, none⟩ = some (.int .u8 a2_0) := (blk_cell BK146.out 0).trans rfl
                        have hcz93_1 : wc.cell? ⟨gb146, 1, none⟩ = some (.int .i64 a2_1) := (blk_cell BK146.out 1).trans rfl
                        have hcz93_2 : wc.cell? ⟨gb146, 2, none⟩ = some (.string a2_2) := (blk_cell BK146.out 2).trans rfl
                        have hfz93_0 := blk_frozen BK146.out 0
                        have hfz93_1 := blk_frozen BK146.out 1
                        have hfz93_2 := blk_frozen BK146.out 2
                        go_wp2_with (first | ((with_reducible refine gate_callee (f := 39) rfl ?_); refine goesL_ (some 30) rfl rfl Try.func39 (by kernel_rfl) rfl #[.agg #[.int .u8 a1_0, .int .i64 a1_1, .string a1_2], .agg #[.int .u8 a2_0, .int .i64 a2_1, .string a2_2]] rfl (by (try simp only [List.map_toArray, List.map_cons, List.map_nil]); first | done | rfl | (simp only [List.length_drop, List.length_take]; rfl)) ?_; (with_reducible refine (rowlockref01_Less.calls kj13 a1_0 a1_1 a1_2 a2_0 a2_1 a2_2 t147 _ A23.out).mono ?_); rintro e w94 ⟨rfl, hb⟩; refine ⟨_, rfl, ?_⟩; have n0_ := Aside0.mk (blk_below (g := gb145) (o := .cells #[.int .u8 a1_0, .int .i64 a1_1, .string a1_2] 36 (0, 0)) (by (with_reducible repeat (first | refine blk_drewN ?_ _ | refine blk_drew ?_ | refine blk_alloc ?_ _)); exact BK145.out) hb); have n1_ := Aside0.mk (blk_below (g := gb146) (o := .cells #[.int .u8 a2_0, .int .i64 a2_1, .string a2_2] 36 (0, 0)) (by (with_reducible repeat (first | refine blk_drewN ?_ _ | refine blk_drew ?_ | refine blk_alloc ?_ _)); exact BK146.out) hb); have n2_ := Aside0.mk (below_step (by repeat (first | (with_reducible first | exact HB.out | apply below_alloc | apply pw_below_drewN | apply below_drew1 | refine below_set ?_ GE145.out | refine below_set ?_ GE146.out) | exact HB.out)) hb); clear BK145; clear BK146; clear HB; have BK145 := n0_; have BK146 := n1_; have HB := n2_; clear n0_ n1_ n2_; (try clear hb); (try clear hb2); (try clear hk); (try clear hi); have hcz95_0 : w94.cell? ⟨gb146, 0, none⟩ = some (.int .u8 a2_0) := (blk_cell BK146.out 0).trans rfl; have hcz95_1 : w94.cell? ⟨gb146, 1, none⟩ = some (.int .i64 a2_1) := (blk_cell BK146.out 1).trans rfl; have hcz95_2 : w94.cell? ⟨gb146, 2, none⟩ = some (.string a2_2) := (blk_cell BK146.out 2).trans rfl; have hfz95_0 := blk_frozen BK146.out 0; have hfz95_1 := blk_frozen BK146.out 1; have hfz95_2 := blk_frozen BK146.out 2; have hcz96_0 : w94.cell? ⟨gb145, 0, none⟩ = some (.int .u8 a1_0) := (blk_cell BK145.out 0).trans rfl; have hcz96_1 : w94.cell? ⟨gb145, 1, none⟩ = some (.int .i64 a1_1) := (blk_cell BK145.out 1).trans rfl; have hcz96_2 : w94.cell? ⟨gb145, 2, none⟩ = some (.string a1_2) := (blk_cell BK145.out 2).trans rfl; have hfz96_0 := blk_frozen BK145.out 0; have hfz96_1 := blk_frozen BK145.out 1; have hfz96_2 := blk_frozen BK145.out 2) | ((with_reducible refine gate_callee (f := 39) rfl ?_); refine goesL_ (some 33) rfl rfl Try.func39 (by kernel_rfl) rfl #[.agg #[.int .u8 a2_0, .int .i64 a2_1, .string a2_2], .agg #[.int .u8 a1_0, .int .i64 a1_1, .string a1_2]] rfl (by (try simp only [List.map_toArray, List.map_cons, List.map_nil]); first | done | rfl | (simp only [List.length_drop, List.length_take]; rfl)) ?_; (with_reducible refine (rowlockref01_Less.calls kj13 a2_0 a2_1 a2_2 a1_0 a1_1 a1_2 true _ A24.out).mono ?_); rintro e w97 ⟨rfl, hb⟩; refine ⟨_, rfl, ?_⟩; have n0_ := Aside0.mk (blk_below (g := gb145) (o := .cells #[.int .u8 a1_0, .int .i64 a1_1, .string a1_2] 36 (0, 0)) (by (with_reducible repeat (first | refine blk_drewN ?_ _ | refine blk_drew ?_ | refine blk_alloc ?_ _)); exact BK145.out) hb); have n1_ := Aside0.mk (blk_below (g := gb146) (o := .cells #[.int .u8 a2_0, .int .i64 a2_1, .string a2_2] 36 (0, 0)) (by (with_reducible repeat (first | refine blk_drewN ?_ _ | refine blk_drew ?_ | refine blk_alloc ?_ _)); exact BK146.out) hb); have n2_ := Aside0.mk (below_step (by repeat (first | (with_reducible first | exact HB.out | apply below_alloc | apply pw_below_drewN | apply below_drew1 | refine below_set ?_ GE145.out | refine below_set ?_ GE146.out) | exact HB.out)) hb); clear BK145; clear BK146; clear HB; have BK145 := n0_; have BK146 := n1_; have HB := n2_; clear n0_ n1_ n2_; (try clear hb); (try clear hb2); (try clear hk); (try clear hi)))
                        go_ret
                        exact ⟨by first | rfl | (simp [errW_none, errW_some] <;> rfl) | (simp [*, errW_none, errW_some] <;> rfl), by repeat (first | (with_reducible first | exact HB.out | apply below_alloc | apply pw_below_drewN | apply below_drew1 | refine below_set ?_ GE145.out | refine below_set ?_ GE146.out) | exact HB.out)⟩
                      · replace c90 := Bool.eq_false_iff.mpr c90
                        subst c90
                        have H1 : (some 3) = some r := by rw [if_neg (show ¬ (false = true) by decide)] at H; exact H
                        clear H
                        have H := H1
                        clear H1
                        obtain rfl := Option.some.inj H
                        have hnb98 := NB145_146.out
                        have hnc98 := NB146_145.out
                        have hcz99_0 : wc.cell? ⟨gb145, 0, none⟩ = some (.int .u8 a1_0) := (blk_cell BK145.out 0).trans rfl
                        have hcz99_1 : wc.cell? ⟨gb145, 1, none⟩ = some (.int .i64 a1_1) := (blk_cell BK145.out 1).trans rfl
                        have hcz99_2 : wc.cell? ⟨gb145, 2, none⟩ = some (.string a1_2) := (blk_cell BK145.out 2).trans rfl
                        have hfz99_0 := blk_frozen BK145.out 0
                        have hfz99_1 := blk_frozen BK145.out 1
                        have hfz99_2 := blk_frozen BK145.out 2
                        have hcz100_0 : wc.cell? ⟨gb146, 0, none⟩ = some (.int .u8 a2_0) := (blk_cell BK146.out 0).trans rfl
                        have hcz100_1 : wc.cell? ⟨gb146, 1, none⟩ = some (.int .i64 a2_1) := (blk_cell BK146.out 1).trans rfl
                        have hcz100_2 : wc.cell? ⟨gb146, 2, none⟩ = some (.string a2_2) := (blk_cell BK146.out 2).trans rfl
                        have hfz100_0 := blk_frozen BK146.out 0
                        have hfz100_1 := blk_frozen BK146.out 1
                        have hfz100_2 := blk_frozen BK146.out 2
                        go_wp2_with (first | ((with_reducible refine gate_callee (f := 39) rfl ?_); refine goesL_ (some 30) rfl rfl Try.func39 (by kernel_rfl) rfl #[.agg #[.int .u8 a1_0, .int .i64 a1_1, .string a1_2], .agg #[.int .u8 a2_0, .int .i64 a2_1, .string a2_2]] rfl (by (try simp only [List.map_toArray, List.map_cons, List.map_nil]); first | done | rfl | (simp only [List.length_drop, List.length_take]; rfl)) ?_; (with_reducible refine (rowlockref01_Less.calls kj13 a1_0 a1_1 a1_2 a2_0 a2_1 a2_2 t147 _ A23.out).mono ?_); rintro e w101 ⟨rfl, hb⟩; refine ⟨_, rfl, ?_⟩; have n0_ := Aside0.mk (blk_below (g := gb145) (o := .cells #[.int .u8 a1_0, .int .i64 a1_1, .string a1_2] 36 (0, 0)) (by (with_reducible repeat (first | refine blk_drewN ?_ _ | refine blk_drew ?_ | refine blk_alloc ?_ _)); exact BK145.out) hb); have n1_ := Aside0.mk (blk_below (g := gb146) (o := .cells #[.int .u8 a2_0, .int .i64 a2_1, .string a2_2] 36 (0, 0)) (by (with_reducible repeat (first | refine blk_drewN ?_ _ | refine blk_drew ?_ | refine blk_alloc ?_ _)); exact BK146.out) hb); have n2_ := Aside0.mk (below_step (by repeat (first | (with_reducible first | exact HB.out | apply below_alloc | apply pw_below_drewN | apply below_drew1 | refine below_set ?_ GE145.out | refine below_set ?_ GE146.out) | exact HB.out)) hb); clear BK145; clear BK146; clear HB; have BK145 := n0_; have BK146 := n1_; have HB := n2_; clear n0_ n1_ n2_; (try clear hb); (try clear hb2); (try clear hk); (try clear hi); have hcz102_0 : w101.cell? ⟨gb146, 0, none⟩ = some (.int .u8 a2_0) := (blk_cell BK146.out 0).trans rfl; have hcz102_1 : w101.cell? ⟨gb146, 1, none⟩ = some (.int .i64 a2_1) := (blk_cell BK146.out 1).trans rfl; have hcz102_2 : w101.cell? ⟨gb146, 2, none⟩ = some (.string a2_2) := (blk_cell BK146.out 2).trans rfl; have hfz102_0 := blk_frozen BK146.out 0; have hfz102_1 := blk_frozen BK146.out 1; have hfz102_2 := blk_frozen BK146.out 2; have hcz103_0 : w101.cell? ⟨gb145, 0, none⟩ = some (.int .u8 a1_0) := (blk_cell BK145.out 0).trans rfl; have hcz103_1 : w101.cell? ⟨gb145, 1, none⟩ = some (.int .i64 a1_1) := (blk_cell BK145.out 1).trans rfl; have hcz103_2 : w101.cell? ⟨gb145, 2, none⟩ = some (.string a1_2) := (blk_cell BK145.out 2).trans rfl; have hfz103_0 := blk_frozen BK145.out 0; have hfz103_1 := blk_frozen BK145.out 1; have hfz103_2 := blk_frozen BK145.out 2) | ((with_reducible refine gate_callee (f := 39) rfl ?_); refine goesL_ (some 33) rfl rfl Try.func39 (by kernel_rfl) rfl #[.agg #[.int .u8 a2_0, .int .i64 a2_1, .string a2_2], .agg #[.int .u8 a1_0, .int .i64 a1_1, .string a1_2]] rfl (by (try simp only [List.map_toArray, List.map_cons, List.map_nil]); first | done | rfl | (simp only [List.length_drop, List.length_take]; rfl)) ?_; (with_reducible refine (rowlockref01_Less.calls kj13 a2_0 a2_1 a2_2 a1_0 a1_1 a1_2 false _ A24.out).mono ?_); rintro e w104 ⟨rfl, hb⟩; refine ⟨_, rfl, ?_⟩; have n0_ := Aside0.mk (blk_below (g := gb145) (o := .cells #[.int .u8 a1_0, .int .i64 a1_1, .string a1_2] 36 (0, 0)) (by (with_reducible repeat (first | refine blk_drewN ?_ _ | refine blk_drew ?_ | refine blk_alloc ?_ _)); exact BK145.out) hb); have n1_ := Aside0.mk (blk_below (g := gb146) (o := .cells #[.int .u8 a2_0, .int .i64 a2_1, .string a2_2] 36 (0, 0)) (by (with_reducible repeat (first | refine blk_drewN ?_ _ | refine blk_drew ?_ | refine blk_alloc ?_ _)); exact BK146.out) hb); have n2_ := Aside0.mk (below_step (by repeat (first | (with_reducible first | exact HB.out | apply below_alloc | apply pw_below_drewN | apply below_drew1 | refine below_set ?_ GE145.out | refine below_set ?_ GE146.out) | exact HB.out)) hb); clear BK145; clear BK146; clear HB; have BK145 := n0_; have BK146 := n1_; have HB := n2_; clear n0_ n1_ n2_; (try clear hb); (try clear hb2); (try clear hk); (try clear hi)))
                        go_ret
                        exact ⟨by first | rfl | (simp [errW_none, errW_some] <;> rfl) | (simp [*, errW_none, errW_some] <;> rfl), by repeat (first | (with_reducible first | exact HB.out | apply below_alloc | apply pw_below_drewN | apply below_drew1 | refine below_set ?_ GE145.out | refine below_set ?_ GE146.out) | exact HB.out)⟩
                    · rw [if_neg c89] at H
                      have c89b0 : (a0.toList == ([60, 61] : List UInt8)) = false := beq_eq_false_iff_ne.mpr c89
                      have c89b1 : (a0.toList != ([60, 61] : List UInt8)) = true := bne_iff_ne.mpr c89
                      by_cases c105 : a0.toList = ([62] : List UInt8)
                      · rw [if_pos c105] at H
                        have c105b0 : (a0.toList == ([62] : List UInt8)) = true := beq_iff_eq.mpr c105
                        have c105b1 : (a0.toList != ([62] : List UInt8)) = false := bne_eq_false_iff_eq.mpr c105
                        clear c105
                        by_cases c106 : t148 = true
                        · subst c106
                          have H1 : (some 3) = some r := by rw [if_pos rfl] at H; exact H
                          clear H
                          have H := H1
                          clear H1
                          obtain rfl := Option.some.inj H
                          have hnb107 := NB145_146.out
                          have hnc107 := NB146_145.out
                          have hcz108_0 : wc.cell? ⟨gb145, 0, none⟩ = some (.int .u8 a1_0) := (blk_cell BK145.out 0).trans rfl
                          have hcz108_1 : wc.cell? ⟨gb145, 1, none⟩ = some (.int .i64 a1_1) := (blk_cell BK145.out 1).trans rfl
                          have hcz108_2 : wc.cell? ⟨gb145, 2, none⟩ = some (.string a1_2) := (blk_cell BK145.out 2).trans rfl
                          have hfz108_0 := blk_frozen BK145.out 0
                          have hfz108_1 := blk_frozen BK145.out 1
                          have hfz108_2 := blk_frozen BK145.out 2
                          have hcz109_0 : wc.cell? ⟨gb146, 0, none⟩ = some (.int .u8 a2_0) := (blk_cell BK146.out 0).trans rfl
                          have hcz109_1 : wc.cell? ⟨gb146, 1, none⟩ = some (.int .i64 a2_1) := (blk_cell BK146.out 1).trans rfl
                          have hcz109_2 : wc.cell? ⟨gb146, 2, none⟩ = some (.string a2_2) := (blk_cell BK146.out 2).trans rfl
                          have hfz109_0 := blk_frozen BK146.out 0
                          have hfz109_1 := blk_frozen BK146.out 1
                          have hfz109_2 := blk_frozen BK146.out 2
                          go_wp2_with (first | ((with_reducible refine gate_callee (f := 39) rfl ?_); refine goesL_ (some 30) rfl rfl Try.func39 (by kernel_rfl) rfl #[.agg #[.int .u8 a1_0, .int .i64 a1_1, .string a1_2], .agg #[.int .u8 a2_0, .int .i64 a2_1, .string a2_2]] rfl (by (try simp only [List.map_toArray, List.map_cons, List.map_nil]); first | done | rfl | (simp only [List.length_drop, List.length_take]; rfl)) ?_; (with_reducible refine (rowlockref01_Less.calls kj13 a1_0 a1_1 a1_2 a2_0 a2_1 a2_2 t147 _ A23.out).mono ?_); rintro e w110 ⟨rfl, hb⟩; refine ⟨_, rfl, ?_⟩; have n0_ := Aside0.mk (blk_below (g := gb145) (o := .cells #[.int .u8 a1_0, .int .i64 a1_1, .string a1_2] 36 (0, 0)) (by (with_reducible repeat (first | refine blk_drewN ?_ _ | refine blk_drew ?_ | refine blk_alloc ?_ _)); exact BK145.out) hb); have n1_ := Aside0.mk (blk_below (g := gb146) (o := .cells #[.int .u8 a2_0, .int .i64 a2_1, .string a2_2] 36 (0, 0)) (by (with_reducible repeat (first | refine blk_drewN ?_ _ | refine blk_drew ?_ | refine blk_alloc ?_ _)); exact BK146.out) hb); have n2_ := Aside0.mk (below_step (by repeat (first | (with_reducible first | exact HB.out | apply below_alloc | apply pw_below_drewN | apply below_drew1 | refine below_set ?_ GE145.out | refine below_set ?_ GE146.out) | exact HB.out)) hb); clear BK145; clear BK146; clear HB; have BK145 := n0_; have BK146 := n1_; have HB := n2_; clear n0_ n1_ n2_; (try clear hb); (try clear hb2); (try clear hk); (try clear hi); have hcz111_0 : w110.cell? ⟨gb146, 0, none⟩ = some (.int .u8 a2_0) := (blk_cell BK146.out 0).trans rfl; have hcz111_1 : w110.cell? ⟨gb146, 1, none⟩ = some (.int .i64 a2_1) := (blk_cell BK146.out 1).trans rfl; have hcz111_2 : w110.cell? ⟨gb146, 2, none⟩ = some (.string a2_2) := (blk_cell BK146.out 2).trans rfl; have hfz111_0 := blk_frozen BK146.out 0; have hfz111_1 := blk_frozen BK146.out 1; have hfz111_2 := blk_frozen BK146.out 2; have hcz112_0 : w110.cell? ⟨gb145, 0, none⟩ = some (.int .u8 a1_0) := (blk_cell BK145.out 0).trans rfl; have hcz112_1 : w110.cell? ⟨gb145, 1, none⟩ = some (.int .i64 a1_1) := (blk_cell BK145.out 1).trans rfl; have hcz112_2 : w110.cell? ⟨gb145, 2, none⟩ = some (.string a1_2) := (blk_cell BK145.out 2).trans rfl; have hfz112_0 := blk_frozen BK145.out 0; have hfz112_1 := blk_frozen BK145.out 1; have hfz112_2 := blk_frozen BK145.out 2) | ((with_reducible refine gate_callee (f := 39) rfl ?_); refine goesL_ (some 33) rfl rfl Try.func39 (by kernel_rfl) rfl #[.agg #[.int .u8 a2_0, .int .i64 a2_1, .string a2_2], .agg #[.int .u8 a1_0, .int .i64 a1_1, .string a1_2]] rfl (by (try simp only [List.map_toArray, List.map_cons, List.map_nil]); first | done | rfl | (simp only [List.length_drop, List.length_take]; rfl)) ?_; (with_reducible refine (rowlockref01_Less.calls kj13 a2_0 a2_1 a2_2 a1_0 a1_1 a1_2 true _ A24.out).mono ?_); rintro e w113 ⟨rfl, hb⟩; refine ⟨_, rfl, ?_⟩; have n0_ := Aside0.mk (blk_below (g := gb145) (o := .cells #[.int .u8 a1_0, .int .i64 a1_1, .string a1_2] 36 (0, 0)) (by (with_reducible repeat (first | refine blk_drewN ?_ _ | refine blk_drew ?_ | refine blk_alloc ?_ _)); exact BK145.out) hb); have n1_ := Aside0.mk (blk_below (g := gb146) (o := .cells #[.int .u8 a2_0, .int .i64 a2_1, .string a2_2] 36 (0, 0)) (by (with_reducible repeat (first | refine blk_drewN ?_ _ | refine blk_drew ?_ | refine blk_alloc ?_ _)); exact BK146.out) hb); have n2_ := Aside0.mk (below_step (by repeat (first | (with_reducible first | exact HB.out | apply below_alloc | apply pw_below_drewN | apply below_drew1 | refine below_set ?_ GE145.out | refine below_set ?_ GE146.out) | exact HB.out)) hb); clear BK145; clear BK146; clear HB; have BK145 := n0_; have BK146 := n1_; have HB := n2_; clear n0_ n1_ n2_; (try clear hb); (try clear hb2); (try clear hk); (try clear hi)))
                          go_ret
                          exact ⟨by first | rfl | (simp [errW_none, errW_some] <;> rfl) | (simp [*, errW_none, errW_some] <;> rfl), by repeat (first | (with_reducible first | exact HB.out | apply below_alloc | apply pw_below_drewN | apply below_drew1 | refine below_set ?_ GE145.out | refine below_set ?_ GE146.out) | exact HB.out)⟩
                        · replace c106 := Bool.eq_false_iff.mpr c106
                          subst c106
                          have H1 : (some 0) = some r := by rw [if_neg (show ¬ (false = true) by decide)] at H; exact H
                          clear H
                          have H := H1
                          clear H1
                          obtain rfl := Option.some.inj H
                          have hnb114 := NB145_146.out
                          have hnc114 := NB146_145.out
                          have hcz115_0 : wc.cell? ⟨gb145, 0, none⟩ = some (.int .u8 a1_0) := (blk_cell BK145.out 0).trans rfl
                          have hcz115_1 : wc.cell? ⟨gb145, 1, none⟩ = some (.int .i64 a1_1) := (blk_cell BK145.out 1).trans rfl
                          have hcz115_2 : wc.cell? ⟨gb145, 2, none⟩ = some (.string a1_2) := (blk_cell BK145.out 2).trans rfl
                          have hfz115_0 := blk_frozen BK145.out 0
                          have hfz115_1 := blk_frozen BK145.out 1
                          have hfz115_2 := blk_frozen BK145.out 2
                          have hcz116_0 : wc.cell? ⟨gb146, 0, none⟩ = some (.int .u8 a2_0) := (blk_cell BK146.out 0).trans rfl
                          have hcz116_1 : wc.cell? ⟨gb146, 1, none⟩ = some (.int .i64 a2_1) := (blk_cell BK146.out 1).trans rfl
                          have hcz116_2 : wc.cell? ⟨gb146, 2, none⟩ = some (.string a2_2) := (blk_cell BK146.out 2).trans rfl
                          have hfz116_0 := blk_frozen BK146.out 0
                          have hfz116_1 := blk_frozen BK146.out 1
                          have hfz116_2 := blk_frozen BK146.out 2
                          go_wp2_with (first | ((with_reducible refine gate_callee (f := 39) rfl ?_); refine goesL_ (some 30) rfl rfl Try.func39 (by kernel_rfl) rfl #[.agg #[.int .u8 a1_0, .int .i64 a1_1, .string a1_2], .agg #[.int .u8 a2_0, .int .i64 a2_1, .string a2_2]] rfl (by (try simp only [List.map_toArray, List.map_cons, List.map_nil]); first | done | rfl | (simp only [List.length_drop, List.length_take]; rfl)) ?_; (with_reducible refine (rowlockref01_Less.calls kj13 a1_0 a1_1 a1_2 a2_0 a2_1 a2_2 t147 _ A23.out).mono ?_); rintro e w117 ⟨rfl, hb⟩; refine ⟨_, rfl, ?_⟩; have n0_ := Aside0.mk (blk_below (g := gb145) (o := .cells #[.int .u8 a1_0, .int .i64 a1_1, .string a1_2] 36 (0, 0)) (by (with_reducible repeat (first | refine blk_drewN ?_ _ | refine blk_drew ?_ | refine blk_alloc ?_ _)); exact BK145.out) hb); have n1_ := Aside0.mk (blk_below (g := gb146) (o := .cells #[.int .u8 a2_0, .int .i64 a2_1, .string a2_2] 36 (0, 0)) (by (with_reducible repeat (first | refine blk_drewN ?_ _ | refine blk_drew ?_ | refine blk_alloc ?_ _)); exact BK146.out) hb); have n2_ := Aside0.mk (below_step (by repeat (first | (with_reducible first | exact HB.out | apply below_alloc | apply pw_below_drewN | apply below_drew1 | refine below_set ?_ GE145.out | refine below_set ?_ GE146.out) | exact HB.out)) hb); clear BK145; clear BK146; clear HB; have BK145 := n0_; have BK146 := n1_; have HB := n2_; clear n0_ n1_ n2_; (try clear hb); (try clear hb2); (try clear hk); (try clear hi); have hcz118_0 : w117.cell? ⟨gb146, 0, none⟩ = some (.int .u8 a2_0) := (blk_cell BK146.out 0).trans rfl; have hcz118_1 : w117.cell? ⟨gb146, 1, none⟩ = some (.int .i64 a2_1) := (blk_cell BK146.out 1).trans rfl; have hcz118_2 : w117.cell? ⟨gb146, 2, none⟩ = some (.string a2_2) := (blk_cell BK146.out 2).trans rfl; have hfz118_0 := blk_frozen BK146.out 0; have hfz118_1 := blk_frozen BK146.out 1; have hfz118_2 := blk_frozen BK146.out 2; have hcz119_0 : w117.cell? ⟨gb145, 0, none⟩ = some (.int .u8 a1_0) := (blk_cell BK145.out 0).trans rfl; have hcz119_1 : w117.cell? ⟨gb145, 1, none⟩ = some (.int .i64 a1_1) := (blk_cell BK145.out 1).trans rfl; have hcz119_2 : w117.cell? ⟨gb145, 2, none⟩ = some (.string a1_2) := (blk_cell BK145.out 2).trans rfl; have hfz119_0 := blk_frozen BK145.out 0; have hfz119_1 := blk_frozen BK145.out 1; have hfz119_2 := blk_frozen BK145.out 2) | ((with_reducible refine gate_callee (f := 39) rfl ?_); refine goesL_ (some 33) rfl rfl Try.func39 (by kernel_rfl) rfl #[.agg #[.int .u8 a2_0, .int .i64 a2_1, .string a2_2], .agg #[.int .u8 a1_0, .int .i64 a1_1, .string a1_2]] rfl (by (try simp only [List.map_toArray, List.map_cons, List.map_nil]); first | done | rfl | (simp only [List.length_drop, List.length_take]; rfl)) ?_; (with_reducible refine (rowlockref01_Less.calls kj13 a2_0 a2_1 a2_2 a1_0 a1_1 a1_2 false _ A24.out).mono ?_); rintro e w120 ⟨rfl, hb⟩; refine ⟨_, rfl, ?_⟩; have n0_ := Aside0.mk (blk_below (g := gb145) (o := .cells #[.int .u8 a1_0, .int .i64 a1_1, .string a1_2] 36 (0, 0)) (by (with_reducible repeat (first | refine blk_drewN ?_ _ | refine blk_drew ?_ | refine blk_alloc ?_ _)); exact BK145.out) hb); have n1_ := Aside0.mk (blk_below (g := gb146) (o := .cells #[.int .u8 a2_0, .int .i64 a2_1, .string a2_2] 36 (0, 0)) (by (with_reducible repeat (first | refine blk_drewN ?_ _ | refine blk_drew ?_ | refine blk_alloc ?_ _)); exact BK146.out) hb); have n2_ := Aside0.mk (below_step (by repeat (first | (with_reducible first | exact HB.out | apply below_alloc | apply pw_below_drewN | apply below_drew1 | refine below_set ?_ GE145.out | refine below_set ?_ GE146.out) | exact HB.out)) hb); clear BK145; clear BK146; clear HB; have BK145 := n0_; have BK146 := n1_; have HB := n2_; clear n0_ n1_ n2_; (try clear hb); (try clear hb2); (try clear hk); (try clear hi)))
                          go_ret
                          exact ⟨by first | rfl | (simp [errW_none, errW_some] <;> rfl) | (simp [*, errW_none, errW_some] <;> rfl), by repeat (first | (with_reducible first | exact HB.out | apply below_alloc | apply pw_below_drewN | apply below_drew1 | refine below_set ?_ GE145.out | refine below_set ?_ GE146.out) | exact HB.out)⟩
                      · rw [if_neg c105] at H
                        have c105b0 : (a0.toList == ([62] : List UInt8)) = false := beq_eq_false_iff_ne.mpr c105
                        have c105b1 : (a0.toList != ([62] : List UInt8)) = true := bne_iff_ne.mpr c105
                        by_cases c121 : a0.toList = ([62, 61] : List UInt8)
                        · rw [if_pos c121] at H
                          have c121b0 : (a0.toList == ([62, 61] : List UInt8)) = true := beq_iff_eq.mpr c121
                          have c121b1 : (a0.toList != ([62, 61] : List UInt8)) = false := bne_eq_false_iff_eq.mpr c121
                          clear c121
                          by_cases c122 : t147 = true
                          · subst c122
                            have H1 : (some 0) = some r := by rw [if_pos rfl] at H; exact H
                            clear H
                            have H := H1
                            clear H1
                            obtain rfl := Option.some.inj H
                            have hnb123 := NB145_146.out
                            have hnc123 := NB146_145.out
                            have hcz124_0 : wc.cell? ⟨gb145, 0, none⟩ = some (.int .u8 a1_0) := (blk_cell BK145.out 0).trans rfl
                            have hcz124_1 : wc.cell? ⟨gb145, 1, none⟩ = some (.int .i64 a1_1) := (blk_cell BK145.out 1).trans rfl
                            have hcz124_2 : wc.cell? ⟨gb145, 2, none⟩ = some (.string a1_2) := (blk_cell BK145.out 2).trans rfl
                            have hfz124_0 := blk_frozen BK145.out 0
                            have hfz124_1 := blk_frozen BK145.out 1
                            have hfz124_2 := blk_frozen BK145.out 2
                            have hcz125_0 : wc.cell? ⟨gb146, 0, none⟩ = some (.int .u8 a2_0) := (blk_cell BK146.out 0).trans rfl
                            have hcz125_1 : wc.cell? ⟨gb146, 1, none⟩ = some (.int .i64 a2_1) := (blk_cell BK146.out 1).trans rfl
                            have hcz125_2 : wc.cell? ⟨gb146, 2, none⟩ = some (.string a2_2) := (blk_cell BK146.out 2).trans rfl
                            have hfz125_0 := blk_frozen BK146.out 0
                            have hfz125_1 := blk_frozen BK146.out 1
                            have hfz125_2 := blk_frozen BK146.out 2
                            go_wp2_with (first | ((with_reducible refine gate_callee (f := 39) rfl ?_); refine goesL_ (some 30) rfl rfl Try.func39 (by kernel_rfl) rfl #[.agg #[.int .u8 a1_0, .int .i64 a1_1, .string a1_2], .agg #[.int .u8 a2_0, .int .i64 a2_1, .string a2_2]] rfl (by (try simp only [List.map_toArray, List.map_cons, List.map_nil]); first | done | rfl | (simp only [List.length_drop, List.length_take]; rfl)) ?_; (with_reducible refine (rowlockref01_Less.calls kj13 a1_0 a1_1 a1_2 a2_0 a2_1 a2_2 true _ A23.out).mono ?_); rintro e w126 ⟨rfl, hb⟩; refine ⟨_, rfl, ?_⟩; have n0_ := Aside0.mk (blk_below (g := gb145) (o := .cells #[.int .u8 a1_0, .int .i64 a1_1, .string a1_2] 36 (0, 0)) (by (with_reducible repeat (first | refine blk_drewN ?_ _ | refine blk_drew ?_ | refine blk_alloc ?_ _)); exact BK145.out) hb); have n1_ := Aside0.mk (blk_below (g := gb146) (o := .cells #[.int .u8 a2_0, .int .i64 a2_1, .string a2_2] 36 (0, 0)) (by (with_reducible repeat (first | refine blk_drewN ?_ _ | refine blk_drew ?_ | refine blk_alloc ?_ _)); exact BK146.out) hb); have n2_ := Aside0.mk (below_step (by repeat (first | (with_reducible first | exact HB.out | apply below_alloc | apply pw_below_drewN | apply below_drew1 | refine below_set ?_ GE145.out | refine below_set ?_ GE146.out) | exact HB.out)) hb); clear BK145; clear BK146; clear HB; have BK145 := n0_; have BK146 := n1_; have HB := n2_; clear n0_ n1_ n2_; (try clear hb); (try clear hb2); (try clear hk); (try clear hi); have hcz127_0 : w126.cell? ⟨gb146, 0, none⟩ = some (.int .u8 a2_0) := (blk_cell BK146.out 0).trans rfl; have hcz127_1 : w126.cell? ⟨gb146, 1, none⟩ = some (.int .i64 a2_1) := (blk_cell BK146.out 1).trans rfl; have hcz127_2 : w126.cell? ⟨gb146, 2, none⟩ = some (.string a2_2) := (blk_cell BK146.out 2).trans rfl; have hfz127_0 := blk_frozen BK146.out 0; have hfz127_1 := blk_frozen BK146.out 1; have hfz127_2 := blk_frozen BK146.out 2; have hcz128_0 : w126.cell? ⟨gb145, 0, none⟩ = some (.int .u8 a1_0) := (blk_cell BK145.out 0).trans rfl; have hcz128_1 : w126.cell? ⟨gb145, 1, none⟩ = some (.int .i64 a1_1) := (blk_cell BK145.out 1).trans rfl; have hcz128_2 : w126.cell? ⟨gb145, 2, none⟩ = some (.string a1_2) := (blk_cell BK145.out 2).trans rfl; have hfz128_0 := blk_frozen BK145.out 0; have hfz128_1 := blk_frozen BK145.out 1; have hfz128_2 := blk_frozen BK145.out 2) | ((with_reducible refine gate_callee (f := 39) rfl ?_); refine goesL_ (some 33) rfl rfl Try.func39 (by kernel_rfl) rfl #[.agg #[.int .u8 a2_0, .int .i64 a2_1, .string a2_2], .agg #[.int .u8 a1_0, .int .i64 a1_1, .string a1_2]] rfl (by (try simp only [List.map_toArray, List.map_cons, List.map_nil]); first | done | rfl | (simp only [List.length_drop, List.length_take]; rfl)) ?_; (with_reducible refine (rowlockref01_Less.calls kj13 a2_0 a2_1 a2_2 a1_0 a1_1 a1_2 t148 _ A24.out).mono ?_); rintro e w129 ⟨rfl, hb⟩; refine ⟨_, rfl, ?_⟩; have n0_ := Aside0.mk (blk_below (g := gb145) (o := .cells #[.int .u8 a1_0, .int .i64 a1_1, .string a1_2] 36 (0, 0)) (by (with_reducible repeat (first | refine blk_drewN ?_ _ | refine blk_drew ?_ | refine blk_alloc ?_ _)); exact BK145.out) hb); have n1_ := Aside0.mk (blk_below (g := gb146) (o := .cells #[.int .u8 a2_0, .int .i64 a2_1, .string a2_2] 36 (0, 0)) (by (with_reducible repeat (first | refine blk_drewN ?_ _ | refine blk_drew ?_ | refine blk_alloc ?_ _)); exact BK146.out) hb); have n2_ := Aside0.mk (below_step (by repeat (first | (with_reducible first | exact HB.out | apply below_alloc | apply pw_below_drewN | apply below_drew1 | refine below_set ?_ GE145.out | refine below_set ?_ GE146.out) | exact HB.out)) hb); clear BK145; clear BK146; clear HB; have BK145 := n0_; have BK146 := n1_; have HB := n2_; clear n0_ n1_ n2_; (try clear hb); (try clear hb2); (try clear hk); (try clear hi)))
                            go_ret
                            exact ⟨by first | rfl | (simp [errW_none, errW_some] <;> rfl) | (simp [*, errW_none, errW_some] <;> rfl), by repeat (first | (with_reducible first | exact HB.out | apply below_alloc | apply pw_below_drewN | apply below_drew1 | refine below_set ?_ GE145.out | refine below_set ?_ GE146.out) | exact HB.out)⟩
                          · replace c122 := Bool.eq_false_iff.mpr c122
                            subst c122
                            have H1 : (some 3) = some r := by rw [if_neg (show ¬ (false = true) by decide)] at H; exact H
                            clear H
                            have H := H1
                            clear H1
                            obtain rfl := Option.some.inj H
                            have hnb130 := NB145_146.out
                            have hnc130 := NB146_145.out
                            have hcz131_0 : wc.cell? ⟨gb145, 0, none⟩ = some (.int .u8 a1_0) := (blk_cell BK145.out 0).trans rfl
                            have hcz131_1 : wc.cell? ⟨gb145, 1, none⟩ = some (.int .i64 a1_1) := (blk_cell BK145.out 1).trans rfl
                            have hcz131_2 : wc.cell? ⟨gb145, 2, none⟩ = some (.string a1_2) := (blk_cell BK145.out 2).trans rfl
                            have hfz131_0 := blk_frozen BK145.out 0
                            have hfz131_1 := blk_frozen BK145.out 1
                            have hfz131_2 := blk_frozen BK145.out 2
                            have hcz132_0 : wc.cell? ⟨gb146, 0, none⟩ = some (.int .u8 a2_0) := (blk_cell BK146.out 0).trans rfl
                            have hcz132_1 : wc.cell? ⟨gb146, 1, none⟩ = some (.int .i64 a2_1) := (blk_cell BK146.out 1).trans rfl
                            have hcz132_2 : wc.cell? ⟨gb146, 2, none⟩ = some (.string a2_2) := (blk_cell BK146.out 2).trans rfl
                            have hfz132_0 := blk_frozen BK146.out 0
                            have hfz132_1 := blk_frozen BK146.out 1
                            have hfz132_2 := blk_frozen BK146.out 2
                            go_wp2_with (first | ((with_reducible refine gate_callee (f := 39) rfl ?_); refine goesL_ (some 30) rfl rfl Try.func39 (by kernel_rfl) rfl #[.agg #[.int .u8 a1_0, .int .i64 a1_1, .string a1_2], .agg #[.int .u8 a2_0, .int .i64 a2_1, .string a2_2]] rfl (by (try simp only [List.map_toArray, List.map_cons, List.map_nil]); first | done | rfl | (simp only [List.length_drop, List.length_take]; rfl)) ?_; (with_reducible refine (rowlockref01_Less.calls kj13 a1_0 a1_1 a1_2 a2_0 a2_1 a2_2 false _ A23.out).mono ?_); rintro e w133 ⟨rfl, hb⟩; refine ⟨_, rfl, ?_⟩; have n0_ := Aside0.mk (blk_below (g := gb145) (o := .cells #[.int .u8 a1_0, .int .i64 a1_1, .string a1_2] 36 (0, 0)) (by (with_reducible repeat (first | refine blk_drewN ?_ _ | refine blk_drew ?_ | refine blk_alloc ?_ _)); exact BK145.out) hb); have n1_ := Aside0.mk (blk_below (g := gb146) (o := .cells #[.int .u8 a2_0, .int .i64 a2_1, .string a2_2] 36 (0, 0)) (by (with_reducible repeat (first | refine blk_drewN ?_ _ | refine blk_drew ?_ | refine blk_alloc ?_ _)); exact BK146.out) hb); have n2_ := Aside0.mk (below_step (by repeat (first | (with_reducible first | exact HB.out | apply below_alloc | apply pw_below_drewN | apply below_drew1 | refine below_set ?_ GE145.out | refine below_set ?_ GE146.out) | exact HB.out)) hb); clear BK145; clear BK146; clear HB; have BK145 := n0_; have BK146 := n1_; have HB := n2_; clear n0_ n1_ n2_; (try clear hb); (try clear hb2); (try clear hk); (try clear hi); have hcz134_0 : w133.cell? ⟨gb146, 0, none⟩ = some (.int .u8 a2_0) := (blk_cell BK146.out 0).trans rfl; have hcz134_1 : w133.cell? ⟨gb146, 1, none⟩ = some (.int .i64 a2_1) := (blk_cell BK146.out 1).trans rfl; have hcz134_2 : w133.cell? ⟨gb146, 2, none⟩ = some (.string a2_2) := (blk_cell BK146.out 2).trans rfl; have hfz134_0 := blk_frozen BK146.out 0; have hfz134_1 := blk_frozen BK146.out 1; have hfz134_2 := blk_frozen BK146.out 2; have hcz135_0 : w133.cell? ⟨gb145, 0, none⟩ = some (.int .u8 a1_0) := (blk_cell BK145.out 0).trans rfl; have hcz135_1 : w133.cell? ⟨gb145, 1, none⟩ = some (.int .i64 a1_1) := (blk_cell BK145.out 1).trans rfl; have hcz135_2 : w133.cell? ⟨gb145, 2, none⟩ = some (.string a1_2) := (blk_cell BK145.out 2).trans rfl; have hfz135_0 := blk_frozen BK145.out 0; have hfz135_1 := blk_frozen BK145.out 1; have hfz135_2 := blk_frozen BK145.out 2) | ((with_reducible refine gate_callee (f := 39) rfl ?_); refine goesL_ (some 33) rfl rfl Try.func39 (by kernel_rfl) rfl #[.agg #[.int .u8 a2_0, .int .i64 a2_1, .string a2_2], .agg #[.int .u8 a1_0, .int .i64 a1_1, .string a1_2]] rfl (by (try simp only [List.map_toArray, List.map_cons, List.map_nil]); first | done | rfl | (simp only [List.length_drop, List.length_take]; rfl)) ?_; (with_reducible refine (rowlockref01_Less.calls kj13 a2_0 a2_1 a2_2 a1_0 a1_1 a1_2 t148 _ A24.out).mono ?_); rintro e w136 ⟨rfl, hb⟩; refine ⟨_, rfl, ?_⟩; have n0_ := Aside0.mk (blk_below (g := gb145) (o := .cells #[.int .u8 a1_0, .int .i64 a1_1, .string a1_2] 36 (0, 0)) (by (with_reducible repeat (first | refine blk_drewN ?_ _ | refine blk_drew ?_ | refine blk_alloc ?_ _)); exact BK145.out) hb); have n1_ := Aside0.mk (blk_below (g := gb146) (o := .cells #[.int .u8 a2_0, .int .i64 a2_1, .string a2_2] 36 (0, 0)) (by (with_reducible repeat (first | refine blk_drewN ?_ _ | refine blk_drew ?_ | refine blk_alloc ?_ _)); exact BK146.out) hb); have n2_ := Aside0.mk (below_step (by repeat (first | (with_reducible first | exact HB.out | apply below_alloc | apply pw_below_drewN | apply below_drew1 | refine below_set ?_ GE145.out | refine below_set ?_ GE146.out) | exact HB.out)) hb); clear BK145; clear BK146; clear HB; have BK145 := n0_; have BK146 := n1_; have HB := n2_; clear n0_ n1_ n2_; (try clear hb); (try clear hb2); (try clear hk); (try clear hi)))
                            go_ret
                            exact ⟨by first | rfl | (simp [errW_none, errW_some] <;> rfl) | (simp [*, errW_none, errW_some] <;> rfl), by repeat (first | (with_reducible first | exact HB.out | apply below_alloc | apply pw_below_drewN | apply below_drew1 | refine below_set ?_ GE145.out | refine below_set ?_ GE146.out) | exact HB.out)⟩
                        · rw [if_neg c121] at H
                          have c121b0 : (a0.toList == ([62, 61] : List UInt8)) = false := beq_eq_false_iff_ne.mpr c121
                          have c121b1 : (a0.toList != ([62, 61] : List UInt8)) = true := bne_iff_ne.mpr c121
                          obtain rfl := Option.some.inj H
                          have hnb137 := NB145_146.out
                          have hnc137 := NB146_145.out
                          have hcz138_0 : wc.cell? ⟨gb145, 0, none⟩ = some (.int .u8 a1_0) := (blk_cell BK145.out 0).trans rfl
                          have hcz138_1 : wc.cell? ⟨gb145, 1, none⟩ = some (.int .i64 a1_1) := (blk_cell BK145.out 1).trans rfl
                          have hcz138_2 : wc.cell? ⟨gb145, 2, none⟩ = some (.string a1_2) := (blk_cell BK145.out 2).trans rfl
                          have hfz138_0 := blk_frozen BK145.out 0
                          have hfz138_1 := blk_frozen BK145.out 1
                          have hfz138_2 := blk_frozen BK145.out 2
                          have hcz139_0 : wc.cell? ⟨gb146, 0, none⟩ = some (.int .u8 a2_0) := (blk_cell BK146.out 0).trans rfl
                          have hcz139_1 : wc.cell? ⟨gb146, 1, none⟩ = some (.int .i64 a2_1) := (blk_cell BK146.out 1).trans rfl
                          have hcz139_2 : wc.cell? ⟨gb146, 2, none⟩ = some (.string a2_2) := (blk_cell BK146.out 2).trans rfl
                          have hfz139_0 := blk_frozen BK146.out 0
                          have hfz139_1 := blk_frozen BK146.out 1
                          have hfz139_2 := blk_frozen BK146.out 2
                          go_wp2_with (first | ((with_reducible refine gate_callee (f := 39) rfl ?_); refine goesL_ (some 30) rfl rfl Try.func39 (by kernel_rfl) rfl #[.agg #[.int .u8 a1_0, .int .i64 a1_1, .string a1_2], .agg #[.int .u8 a2_0, .int .i64 a2_1, .string a2_2]] rfl (by (try simp only [List.map_toArray, List.map_cons, List.map_nil]); first | done | rfl | (simp only [List.length_drop, List.length_take]; rfl)) ?_; (with_reducible refine (rowlockref01_Less.calls kj13 a1_0 a1_1 a1_2 a2_0 a2_1 a2_2 t147 _ A23.out).mono ?_); rintro e w140 ⟨rfl, hb⟩; refine ⟨_, rfl, ?_⟩; have n0_ := Aside0.mk (blk_below (g := gb145) (o := .cells #[.int .u8 a1_0, .int .i64 a1_1, .string a1_2] 36 (0, 0)) (by (with_reducible repeat (first | refine blk_drewN ?_ _ | refine blk_drew ?_ | refine blk_alloc ?_ _)); exact BK145.out) hb); have n1_ := Aside0.mk (blk_below (g := gb146) (o := .cells #[.int .u8 a2_0, .int .i64 a2_1, .string a2_2] 36 (0, 0)) (by (with_reducible repeat (first | refine blk_drewN ?_ _ | refine blk_drew ?_ | refine blk_alloc ?_ _)); exact BK146.out) hb); have n2_ := Aside0.mk (below_step (by repeat (first | (with_reducible first | exact HB.out | apply below_alloc | apply pw_below_drewN | apply below_drew1 | refine below_set ?_ GE145.out | refine below_set ?_ GE146.out) | exact HB.out)) hb); clear BK145; clear BK146; clear HB; have BK145 := n0_; have BK146 := n1_; have HB := n2_; clear n0_ n1_ n2_; (try clear hb); (try clear hb2); (try clear hk); (try clear hi); have hcz141_0 : w140.cell? ⟨gb146, 0, none⟩ = some (.int .u8 a2_0) := (blk_cell BK146.out 0).trans rfl; have hcz141_1 : w140.cell? ⟨gb146, 1, none⟩ = some (.int .i64 a2_1) := (blk_cell BK146.out 1).trans rfl; have hcz141_2 : w140.cell? ⟨gb146, 2, none⟩ = some (.string a2_2) := (blk_cell BK146.out 2).trans rfl; have hfz141_0 := blk_frozen BK146.out 0; have hfz141_1 := blk_frozen BK146.out 1; have hfz141_2 := blk_frozen BK146.out 2; have hcz142_0 : w140.cell? ⟨gb145, 0, none⟩ = some (.int .u8 a1_0) := (blk_cell BK145.out 0).trans rfl; have hcz142_1 : w140.cell? ⟨gb145, 1, none⟩ = some (.int .i64 a1_1) := (blk_cell BK145.out 1).trans rfl; have hcz142_2 : w140.cell? ⟨gb145, 2, none⟩ = some (.string a1_2) := (blk_cell BK145.out 2).trans rfl; have hfz142_0 := blk_frozen BK145.out 0; have hfz142_1 := blk_frozen BK145.out 1; have hfz142_2 := blk_frozen BK145.out 2) | ((with_reducible refine gate_callee (f := 39) rfl ?_); refine goesL_ (some 33) rfl rfl Try.func39 (by kernel_rfl) rfl #[.agg #[.int .u8 a2_0, .int .i64 a2_1, .string a2_2], .agg #[.int .u8 a1_0, .int .i64 a1_1, .string a1_2]] rfl (by (try simp only [List.map_toArray, List.map_cons, List.map_nil]); first | done | rfl | (simp only [List.length_drop, List.length_take]; rfl)) ?_; (with_reducible refine (rowlockref01_Less.calls kj13 a2_0 a2_1 a2_2 a1_0 a1_1 a1_2 t148 _ A24.out).mono ?_); rintro e w143 ⟨rfl, hb⟩; refine ⟨_, rfl, ?_⟩; have n0_ := Aside0.mk (blk_below (g := gb145) (o := .cells #[.int .u8 a1_0, .int .i64 a1_1, .string a1_2] 36 (0, 0)) (by (with_reducible repeat (first | refine blk_drewN ?_ _ | refine blk_drew ?_ | refine blk_alloc ?_ _)); exact BK145.out) hb); have n1_ := Aside0.mk (blk_below (g := gb146) (o := .cells #[.int .u8 a2_0, .int .i64 a2_1, .string a2_2] 36 (0, 0)) (by (with_reducible repeat (first | refine blk_drewN ?_ _ | refine blk_drew ?_ | refine blk_alloc ?_ _)); exact BK146.out) hb); have n2_ := Aside0.mk (below_step (by repeat (first | (with_reducible first | exact HB.out | apply below_alloc | apply pw_below_drewN | apply below_drew1 | refine below_set ?_ GE145.out | refine below_set ?_ GE146.out) | exact HB.out)) hb); clear BK145; clear BK146; clear HB; have BK145 := n0_; have BK146 := n1_; have HB := n2_; clear n0_ n1_ n2_; (try clear hb); (try clear hb2); (try clear hk); (try clear hi)))
                          go_ret
                          exact ⟨by first | rfl | (simp [errW_none, errW_some] <;> rfl) | (simp [*, errW_none, errW_some] <;> rfl), by repeat (first | (with_reducible first | exact HB.out | apply below_alloc | apply pw_below_drewN | apply below_drew1 | refine below_set ?_ GE145.out | refine below_set ?_ GE146.out) | exact HB.out)⟩

end Go.Proofs.Ytegegpdaalfbdaa.XLogicTest
