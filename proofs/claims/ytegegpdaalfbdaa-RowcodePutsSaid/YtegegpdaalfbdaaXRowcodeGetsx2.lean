-- Written by this session's own program (wip/own_print.py) over the kit's print, with this session's hand-proved contracts in their places; Lean checks it.
import Derived.Test.YtegegpdaalfbdaaXRowcodeGetsx0
import Derived.Test.YtegegpdaalfbdaaXRowcodeGetsx1
namespace Go.Proofs.Ytegegpdaalfbdaa.XRowcodeGets
open Go.RowKit Go.Proofs.YtegegpdaalfbdaaW.PrintWords Go.Proofs.YtegegpdaalfbdaaW.PrintLast Go.Proofs.YtegegpdaalfbdaaW.PrintMore
attribute [local go_sem] max2_int min2_int max_two min_two max_three min_three max_four min_four   -- for this text's walks alone
set_option linter.unusedVariables false
set_option linter.unusedSimpArgs false

attribute [local go_sem high] eqA36
/-! ### val_May: function 40 -/
def val_May.f (a0_0 : Int) (a0_1 : Int) (a0_2 : ByteArray) : Option (Bool) := if a0_0 = 0 then (some (a0_0 == 0 && (a0_1 == 0 && (a0_2.toList == ([] : List UInt8))))) else (if a0_0 = 1 then (some (a0_2.toList == ([] : List UInt8))) else (if a0_0 = 2 then (if a0_2.toList = ([] : List UInt8) then (if a0_1 = 0 then (some true) else (some (a0_1 == 1))) else (some false)) else (if a0_0 = 3 then (if a0_1 = 0 then (some (decide ((a0_2.size : Int) ≤ 48))) else (some false)) else (some false))))
set_option maxHeartbeats 8000000 in
set_option maxRecDepth 100000 in
theorem val_May.calls (a0_0 : Int) (a0_1 : Int) (a0_2 : ByteArray) (r : Bool) (w : World) (h : val_May.f a0_0 a0_1 a0_2 = some r) :
    Calls Try.prog 40 #[.agg #[.int .u8 a0_0, .int .i64 a0_1, .string a0_2]] w fun e w' => e = .returned (.bool r) ∧ Below w.heap.size w w' := by
  have hu36 := Try.underlying36
  have HB := Aside0.mk (Below.refl w.heap.size w)
  have H : (if a0_0 = 0 then (some (a0_0 == 0 && (a0_1 == 0 && (a0_2.toList == ([] : List UInt8))))) else (if a0_0 = 1 then (some (a0_2.toList == ([] : List UInt8))) else (if a0_0 = 2 then (if a0_2.toList = ([] : List UInt8) then (if a0_1 = 0 then (some true) else (some (a0_1 == 1))) else (some false)) else (if a0_0 = 3 then (if a0_1 = 0 then (some (decide ((a0_2.size : Int) ≤ 48))) else (some false)) else (some false))))) = some r := h
  clear h
  by_cases c2 : a0_0 = 0
  · rw [if_pos c2] at H
    have c2b0 : (a0_0 == 0) = true := beq_iff_eq.mpr c2
    have c2b1 : (a0_0 != 0) = false := bne_eq_false_iff_eq.mpr c2
    clear c2
    obtain rfl := Option.some.inj H
    go_enter Try.func40, Try.ntmps40
    go_wp2_with (first | ((with_reducible refine gate_dst (N := 1) rfl ?_); (try (refine gate_guard (by rfl) ?_; dsimp only)); refine box_event ?hg (N := 1) ?hd (cs := #[.int .u8 a0_0, .int .i64 a0_1, .string a0_2]) (t := 36) ?hr ?_; (case hd => rfl); (case hg => rfl); (case hr => first | (go_simp; done) | (go_simp; rfl)); intro gb101 hg w3 hbox hb; have n0_ := Aside0.mk (below_step (by repeat (first | (with_reducible first | exact HB.out | apply below_alloc | apply pw_below_drewN | apply below_drew1) | exact HB.out)) hb); have n1_ := Aside0.mk (hbox); have n2_ := Aside0.mk ((by rw [hg]; exact (below_size (by repeat (first | (with_reducible first | exact HB.out | apply below_alloc | apply pw_below_drewN | apply below_drew1) | exact HB.out))) : w.heap.size ≤ gb101)); have n3_ := Aside0.mk ((by rw [hg]; exact (below_size (by repeat (first | (with_reducible first | exact HB.out | apply below_alloc | apply pw_below_drewN | apply below_drew1) | exact HB.out))) : w.heap.size ≤ gb101)); clear HB; have HB := n0_; have BK101 := n1_; have GW101 := n2_; have GE101 := n3_; clear n0_ n1_ n2_ n3_; clear hb hbox hg; have hcz4_0 : w3.cell? ⟨gb101, 0, none⟩ = some (.int .u8 a0_0) := (blk_cell BK101.out 0).trans rfl; have hcz4_1 : w3.cell? ⟨gb101, 1, none⟩ = some (.int .i64 a0_1) := (blk_cell BK101.out 1).trans rfl; have hcz4_2 : w3.cell? ⟨gb101, 2, none⟩ = some (.string a0_2) := (blk_cell BK101.out 2).trans rfl; have hfz4_0 := blk_frozen BK101.out 0; have hfz4_1 := blk_frozen BK101.out 1; have hfz4_2 := blk_frozen BK101.out 2))
    go_ret
    exact ⟨by first | rfl | (simp [errW_none, errW_some] <;> rfl) | (simp [*, errW_none, errW_some] <;> rfl), by repeat (first | (with_reducible first | exact HB.out | apply below_alloc | apply pw_below_drewN | apply below_drew1 | refine below_set ?_ GE101.out) | exact HB.out)⟩
  · rw [if_neg c2] at H
    have c2b0 : (a0_0 == 0) = false := beq_eq_false_iff_ne.mpr c2
    have c2b1 : (a0_0 != 0) = true := bne_iff_ne.mpr c2
    by_cases c5 : a0_0 = 1
    · rw [if_pos c5] at H
      have c5b0 : (a0_0 == 1) = true := beq_iff_eq.mpr c5
      have c5b1 : (a0_0 != 1) = false := bne_eq_false_iff_eq.mpr c5
      clear c5
      obtain rfl := Option.some.inj H
      go_enter Try.func40, Try.ntmps40
      go_wp2_with (first | ((with_reducible refine gate_dst (N := 1) rfl ?_); (try (refine gate_guard (by rfl) ?_; dsimp only)); refine box_event ?hg (N := 1) ?hd (cs := #[.int .u8 a0_0, .int .i64 a0_1, .string a0_2]) (t := 36) ?hr ?_; (case hd => rfl); (case hg => rfl); (case hr => first | (go_simp; done) | (go_simp; rfl)); intro gb101 hg w6 hbox hb; have n0_ := Aside0.mk (below_step (by repeat (first | (with_reducible first | exact HB.out | apply below_alloc | apply pw_below_drewN | apply below_drew1) | exact HB.out)) hb); have n1_ := Aside0.mk (hbox); have n2_ := Aside0.mk ((by rw [hg]; exact (below_size (by repeat (first | (with_reducible first | exact HB.out | apply below_alloc | apply pw_below_drewN | apply below_drew1) | exact HB.out))) : w.heap.size ≤ gb101)); have n3_ := Aside0.mk ((by rw [hg]; exact (below_size (by repeat (first | (with_reducible first | exact HB.out | apply below_alloc | apply pw_below_drewN | apply below_drew1) | exact HB.out))) : w.heap.size ≤ gb101)); clear HB; have HB := n0_; have BK101 := n1_; have GW101 := n2_; have GE101 := n3_; clear n0_ n1_ n2_ n3_; clear hb hbox hg; have hcz7_0 : w6.cell? ⟨gb101, 0, none⟩ = some (.int .u8 a0_0) := (blk_cell BK101.out 0).trans rfl; have hcz7_1 : w6.cell? ⟨gb101, 1, none⟩ = some (.int .i64 a0_1) := (blk_cell BK101.out 1).trans rfl; have hcz7_2 : w6.cell? ⟨gb101, 2, none⟩ = some (.string a0_2) := (blk_cell BK101.out 2).trans rfl; have hfz7_0 := blk_frozen BK101.out 0; have hfz7_1 := blk_frozen BK101.out 1; have hfz7_2 := blk_frozen BK101.out 2))
      go_ret
      exact ⟨by first | rfl | (simp [errW_none, errW_some] <;> rfl) | (simp [*, errW_none, errW_some] <;> rfl), by repeat (first | (with_reducible first | exact HB.out | apply below_alloc | apply pw_below_drewN | apply below_drew1 | refine below_set ?_ GE101.out) | exact HB.out)⟩
    · rw [if_neg c5] at H
      have c5b0 : (a0_0 == 1) = false := beq_eq_false_iff_ne.mpr c5
      have c5b1 : (a0_0 != 1) = true := bne_iff_ne.mpr c5
      by_cases c8 : a0_0 = 2
      · rw [if_pos c8] at H
        have c8b0 : (a0_0 == 2) = true := beq_iff_eq.mpr c8
        have c8b1 : (a0_0 != 2) = false := bne_eq_false_iff_eq.mpr c8
        clear c8
        by_cases c9 : a0_2.toList = ([] : List UInt8)
        · rw [if_pos c9] at H
          have c9b0 : (a0_2.toList == ([] : List UInt8)) = true := beq_iff_eq.mpr c9
          have c9b1 : (a0_2.toList != ([] : List UInt8)) = false := bne_eq_false_iff_eq.mpr c9
          clear c9
          by_cases c10 : a0_1 = 0
          · rw [if_pos c10] at H
            have c10b0 : (a0_1 == 0) = true := beq_iff_eq.mpr c10
            have c10b1 : (a0_1 != 0) = false := bne_eq_false_iff_eq.mpr c10
            clear c10
            obtain rfl := Option.some.inj H
            go_enter Try.func40, Try.ntmps40
            go_wp2_with (first | ((with_reducible refine gate_dst (N := 1) rfl ?_); (try (refine gate_guard (by rfl) ?_; dsimp only)); refine box_event ?hg (N := 1) ?hd (cs := #[.int .u8 a0_0, .int .i64 a0_1, .string a0_2]) (t := 36) ?hr ?_; (case hd => rfl); (case hg => rfl); (case hr => first | (go_simp; done) | (go_simp; rfl)); intro gb101 hg w11 hbox hb; have n0_ := Aside0.mk (below_step (by repeat (first | (with_reducible first | exact HB.out | apply below_alloc | apply pw_below_drewN | apply below_drew1) | exact HB.out)) hb); have n1_ := Aside0.mk (hbox); have n2_ := Aside0.mk ((by rw [hg]; exact (below_size (by repeat (first | (with_reducible first | exact HB.out | apply below_alloc | apply pw_below_drewN | apply below_drew1) | exact HB.out))) : w.heap.size ≤ gb101)); have n3_ := Aside0.mk ((by rw [hg]; exact (below_size (by repeat (first | (with_reducible first | exact HB.out | apply below_alloc | apply pw_below_drewN | apply below_drew1) | exact HB.out))) : w.heap.size ≤ gb101)); clear HB; have HB := n0_; have BK101 := n1_; have GW101 := n2_; have GE101 := n3_; clear n0_ n1_ n2_ n3_; clear hb hbox hg; have hcz12_0 : w11.cell? ⟨gb101, 0, none⟩ = some (.int .u8 a0_0) := (blk_cell BK101.out 0).trans rfl; have hcz12_1 : w11.cell? ⟨gb101, 1, none⟩ = some (.int .i64 a0_1) := (blk_cell BK101.out 1).trans rfl; have hcz12_2 : w11.cell? ⟨gb101, 2, none⟩ = some (.string a0_2) := (blk_cell BK101.out 2).trans rfl; have hfz12_0 := blk_frozen BK101.out 0; have hfz12_1 := blk_frozen BK101.out 1; have hfz12_2 := blk_frozen BK101.out 2))
            go_ret
            exact ⟨by first | rfl | (simp [errW_none, errW_some] <;> rfl) | (simp [*, errW_none, errW_some] <;> rfl), by repeat (first | (with_reducible first | exact HB.out | apply below_alloc | apply pw_below_drewN | apply below_drew1 | refine below_set ?_ GE101.out) | exact HB.out)⟩
          · rw [if_neg c10] at H
            have c10b0 : (a0_1 == 0) = false := beq_eq_false_iff_ne.mpr c10
            have c10b1 : (a0_1 != 0) = true := bne_iff_ne.mpr c10
            obtain rfl := Option.some.inj H
            go_enter Try.func40, Try.ntmps40
            go_wp2_with (first | ((with_reducible refine gate_dst (N := 1) rfl ?_); (try (refine gate_guard (by rfl) ?_; dsimp only)); refine box_event ?hg (N := 1) ?hd (cs := #[.int .u8 a0_0, .int .i64 a0_1, .string a0_2]) (t := 36) ?hr ?_; (case hd => rfl); (case hg => rfl); (case hr => first | (go_simp; done) | (go_simp; rfl)); intro gb101 hg w13 hbox hb; have n0_ := Aside0.mk (below_step (by repeat (first | (with_reducible first | exact HB.out | apply below_alloc | apply pw_below_drewN | apply below_drew1) | exact HB.out)) hb); have n1_ := Aside0.mk (hbox); have n2_ := Aside0.mk ((by rw [hg]; exact (below_size (by repeat (first | (with_reducible first | exact HB.out | apply below_alloc | apply pw_below_drewN | apply below_drew1) | exact HB.out))) : w.heap.size ≤ gb101)); have n3_ := Aside0.mk ((by rw [hg]; exact (below_size (by repeat (first | (with_reducible first | exact HB.out | apply below_alloc | apply pw_below_drewN | apply below_drew1) | exact HB.out))) : w.heap.size ≤ gb101)); clear HB; have HB := n0_; have BK101 := n1_; have GW101 := n2_; have GE101 := n3_; clear n0_ n1_ n2_ n3_; clear hb hbox hg; have hcz14_0 : w13.cell? ⟨gb101, 0, none⟩ = some (.int .u8 a0_0) := (blk_cell BK101.out 0).trans rfl; have hcz14_1 : w13.cell? ⟨gb101, 1, none⟩ = some (.int .i64 a0_1) := (blk_cell BK101.out 1).trans rfl; have hcz14_2 : w13.cell? ⟨gb101, 2, none⟩ = some (.string a0_2) := (blk_cell BK101.out 2).trans rfl; have hfz14_0 := blk_frozen BK101.out 0; have hfz14_1 := blk_frozen BK101.out 1; have hfz14_2 := blk_frozen BK101.out 2))
            go_ret
            exact ⟨by first | rfl | (simp [errW_none, errW_some] <;> rfl) | (simp [*, errW_none, errW_some] <;> rfl), by repeat (first | (with_reducible first | exact HB.out | apply below_alloc | apply pw_below_drewN | apply below_drew1 | refine below_set ?_ GE101.out) | exact HB.out)⟩
        · rw [if_neg c9] at H
          have c9b0 : (a0_2.toList == ([] : List UInt8)) = false := beq_eq_false_iff_ne.mpr c9
          have c9b1 : (a0_2.toList != ([] : List UInt8)) = true := bne_iff_ne.mpr c9
          obtain rfl := Option.some.inj H
          go_enter Try.func40, Try.ntmps40
          go_wp2_with (first | ((with_reducible refine gate_dst (N := 1) rfl ?_); (try (refine gate_guard (by rfl) ?_; dsimp only)); refine box_event ?hg (N := 1) ?hd (cs := #[.int .u8 a0_0, .int .i64 a0_1, .string a0_2]) (t := 36) ?hr ?_; (case hd => rfl); (case hg => rfl); (case hr => first | (go_simp; done) | (go_simp; rfl)); intro gb101 hg w15 hbox hb; have n0_ := Aside0.mk (below_step (by repeat (first | (with_reducible first | exact HB.out | apply below_alloc | apply pw_below_drewN | apply below_drew1) | exact HB.out)) hb); have n1_ := Aside0.mk (hbox); have n2_ := Aside0.mk ((by rw [hg]; exact (below_size (by repeat (first | (with_reducible first | exact HB.out | apply below_alloc | apply pw_below_drewN | apply below_drew1) | exact HB.out))) : w.heap.size ≤ gb101)); have n3_ := Aside0.mk ((by rw [hg]; exact (below_size (by repeat (first | (with_reducible first | exact HB.out | apply below_alloc | apply pw_below_drewN | apply below_drew1) | exact HB.out))) : w.heap.size ≤ gb101)); clear HB; have HB := n0_; have BK101 := n1_; have GW101 := n2_; have GE101 := n3_; clear n0_ n1_ n2_ n3_; clear hb hbox hg; have hcz16_0 : w15.cell? ⟨gb101, 0, none⟩ = some (.int .u8 a0_0) := (blk_cell BK101.out 0).trans rfl; have hcz16_1 : w15.cell? ⟨gb101, 1, none⟩ = some (.int .i64 a0_1) := (blk_cell BK101.out 1).trans rfl; have hcz16_2 : w15.cell? ⟨gb101, 2, none⟩ = some (.string a0_2) := (blk_cell BK101.out 2).trans rfl; have hfz16_0 := blk_frozen BK101.out 0; have hfz16_1 := blk_frozen BK101.out 1; have hfz16_2 := blk_frozen BK101.out 2))
          go_ret
          exact ⟨by first | rfl | (simp [errW_none, errW_some] <;> rfl) | (simp [*, errW_none, errW_some] <;> rfl), by repeat (first | (with_reducible first | exact HB.out | apply below_alloc | apply pw_below_drewN | apply below_drew1 | refine below_set ?_ GE101.out) | exact HB.out)⟩
      · rw [if_neg c8] at H
        have c8b0 : (a0_0 == 2) = false := beq_eq_false_iff_ne.mpr c8
        have c8b1 : (a0_0 != 2) = true := bne_iff_ne.mpr c8
        by_cases c17 : a0_0 = 3
        · rw [if_pos c17] at H
          have c17b0 : (a0_0 == 3) = true := beq_iff_eq.mpr c17
          have c17b1 : (a0_0 != 3) = false := bne_eq_false_iff_eq.mpr c17
          clear c17
          by_cases c18 : a0_1 = 0
          · rw [if_pos c18] at H
            have c18b0 : (a0_1 == 0) = true := beq_iff_eq.mpr c18
            have c18b1 : (a0_1 != 0) = false := bne_eq_false_iff_eq.mpr c18
            clear c18
            obtain rfl := Option.some.inj H
            go_enter Try.func40, Try.ntmps40
            go_wp2_with (first | ((with_reducible refine gate_dst (N := 1) rfl ?_); (try (refine gate_guard (by rfl) ?_; dsimp only)); refine box_event ?hg (N := 1) ?hd (cs := #[.int .u8 a0_0, .int .i64 a0_1, .string a0_2]) (t := 36) ?hr ?_; (case hd => rfl); (case hg => rfl); (case hr => first | (go_simp; done) | (go_simp; rfl)); intro gb101 hg w19 hbox hb; have n0_ := Aside0.mk (below_step (by repeat (first | (with_reducible first | exact HB.out | apply below_alloc | apply pw_below_drewN | apply below_drew1) | exact HB.out)) hb); have n1_ := Aside0.mk (hbox); have n2_ := Aside0.mk ((by rw [hg]; exact (below_size (by repeat (first | (with_reducible first | exact HB.out | apply below_alloc | apply pw_below_drewN | apply below_drew1) | exact HB.out))) : w.heap.size ≤ gb101)); have n3_ := Aside0.mk ((by rw [hg]; exact (below_size (by repeat (first | (with_reducible first | exact HB.out | apply below_alloc | apply pw_below_drewN | apply below_drew1) | exact HB.out))) : w.heap.size ≤ gb101)); clear HB; have HB := n0_; have BK101 := n1_; have GW101 := n2_; have GE101 := n3_; clear n0_ n1_ n2_ n3_; clear hb hbox hg; have hcz20_0 : w19.cell? ⟨gb101, 0, none⟩ = some (.int .u8 a0_0) := (blk_cell BK101.out 0).trans rfl; have hcz20_1 : w19.cell? ⟨gb101, 1, none⟩ = some (.int .i64 a0_1) := (blk_cell BK101.out 1).trans rfl; have hcz20_2 : w19.cell? ⟨gb101, 2, none⟩ = some (.string a0_2) := (blk_cell BK101.out 2).trans rfl; have hfz20_0 := blk_frozen BK101.out 0; have hfz20_1 := blk_frozen BK101.out 1; have hfz20_2 := blk_frozen BK101.out 2))
            go_ret
            exact ⟨by first | rfl | (simp [errW_none, errW_some] <;> rfl) | (simp [*, errW_none, errW_some] <;> rfl), by repeat (first | (with_reducible first | exact HB.out | apply below_alloc | apply pw_below_drewN | apply below_drew1 | refine below_set ?_ GE101.out) | exact HB.out)⟩
          · rw [if_neg c18] at H
            have c18b0 : (a0_1 == 0) = false := beq_eq_false_iff_ne.mpr c18
            have c18b1 : (a0_1 != 0) = true := bne_iff_ne.mpr c18
            obtain rfl := Option.some.inj H
            go_enter Try.func40, Try.ntmps40
            go_wp2_with (first | ((with_reducible refine gate_dst (N := 1) rfl ?_); (try (refine gate_guard (by rfl) ?_; dsimp only)); refine box_event ?hg (N := 1) ?hd (cs := #[.int .u8 a0_0, .int .i64 a0_1, .string a0_2]) (t := 36) ?hr ?_; (case hd => rfl); (case hg => rfl); (case hr => first | (go_simp; done) | (go_simp; rfl)); intro gb101 hg w21 hbox hb; have n0_ := Aside0.mk (below_step (by repeat (first | (with_reducible first | exact HB.out | apply below_alloc | apply pw_below_drewN | apply below_drew1) | exact HB.out)) hb); have n1_ := Aside0.mk (hbox); have n2_ := Aside0.mk ((by rw [hg]; exact (below_size (by repeat (first | (with_reducible first | exact HB.out | apply below_alloc | apply pw_below_drewN | apply below_drew1) | exact HB.out))) : w.heap.size ≤ gb101)); have n3_ := Aside0.mk ((by rw [hg]; exact (below_size (by repeat (first | (with_reducible first | exact HB.out | apply below_alloc | apply pw_below_drewN | apply below_drew1) | exact HB.out))) : w.heap.size ≤ gb101)); clear HB; have HB := n0_; have BK101 := n1_; have GW101 := n2_; have GE101 := n3_; clear n0_ n1_ n2_ n3_; clear hb hbox hg; have hcz22_0 : w21.cell? ⟨gb101, 0, none⟩ = some (.int .u8 a0_0) := (blk_cell BK101.out 0).trans rfl; have hcz22_1 : w21.cell? ⟨gb101, 1, none⟩ = some (.int .i64 a0_1) := (blk_cell BK101.out 1).trans rfl; have hcz22_2 : w21.cell? ⟨gb101, 2, none⟩ = some (.string a0_2) := (blk_cell BK101.out 2).trans rfl; have hfz22_0 := blk_frozen BK101.out 0; have hfz22_1 := blk_frozen BK101.out 1; have hfz22_2 := blk_frozen BK101.out 2))
            go_ret
            exact ⟨by first | rfl | (simp [errW_none, errW_some] <;> rfl) | (simp [*, errW_none, errW_some] <;> rfl), by repeat (first | (with_reducible first | exact HB.out | apply below_alloc | apply pw_below_drewN | apply below_drew1 | refine below_set ?_ GE101.out) | exact HB.out)⟩
        · rw [if_neg c17] at H
          have c17b0 : (a0_0 == 3) = false := beq_eq_false_iff_ne.mpr c17
          have c17b1 : (a0_0 != 3) = true := bne_iff_ne.mpr c17
          obtain rfl := Option.some.inj H
          go_enter Try.func40, Try.ntmps40
          go_wp2_with (first | ((with_reducible refine gate_dst (N := 1) rfl ?_); (try (refine gate_guard (by rfl) ?_; dsimp only)); refine box_event ?hg (N := 1) ?hd (cs := #[.int .u8 a0_0, .int .i64 a0_1, .string a0_2]) (t := 36) ?hr ?_; (case hd => rfl); (case hg => rfl); (case hr => first | (go_simp; done) | (go_simp; rfl)); intro gb101 hg w23 hbox hb; have n0_ := Aside0.mk (below_step (by repeat (first | (with_reducible first | exact HB.out | apply below_alloc | apply pw_below_drewN | apply below_drew1) | exact HB.out)) hb); have n1_ := Aside0.mk (hbox); have n2_ := Aside0.mk ((by rw [hg]; exact (below_size (by repeat (first | (with_reducible first | exact HB.out | apply below_alloc | apply pw_below_drewN | apply below_drew1) | exact HB.out))) : w.heap.size ≤ gb101)); have n3_ := Aside0.mk ((by rw [hg]; exact (below_size (by repeat (first | (with_reducible first | exact HB.out | apply below_alloc | apply pw_below_drewN | apply below_drew1) | exact HB.out))) : w.heap.size ≤ gb101)); clear HB; have HB := n0_; have BK101 := n1_; have GW101 := n2_; have GE101 := n3_; clear n0_ n1_ n2_ n3_; clear hb hbox hg; have hcz24_0 : w23.cell? ⟨gb101, 0, none⟩ = some (.int .u8 a0_0) := (blk_cell BK101.out 0).trans rfl; have hcz24_1 : w23.cell? ⟨gb101, 1, none⟩ = some (.int .i64 a0_1) := (blk_cell BK101.out 1).trans rfl; have hcz24_2 : w23.cell? ⟨gb101, 2, none⟩ = some (.string a0_2) := (blk_cell BK101.out 2).trans rfl; have hfz24_0 := blk_frozen BK101.out 0; have hfz24_1 := blk_frozen BK101.out 1; have hfz24_2 := blk_frozen BK101.out 2))
          go_ret
          exact ⟨by first | rfl | (simp [errW_none, errW_some] <;> rfl) | (simp [*, errW_none, errW_some] <;> rfl), by repeat (first | (with_reducible first | exact HB.out | apply below_alloc | apply pw_below_drewN | apply below_drew1 | refine below_set ?_ GE101.out) | exact HB.out)⟩

/-! ### rowcode_may_1: function 55 -/
def rowcode_may_1.f (a0_0 : Int) (a0_1 : Int) (a0_2 : ByteArray) : Option (Bool) := (val_May.f a0_0 a0_1 a0_2).bind fun t103 => (some (!t103))
set_option maxHeartbeats 8000000 in
set_option maxRecDepth 100000 in
theorem rowcode_may_1.calls (a0_0 : Int) (a0_1 : Int) (a0_2 : ByteArray) (r : Bool) (w : World) (h : rowcode_may_1.f a0_0 a0_1 a0_2 = some r) :
    Calls Try.prog 55 #[.agg #[.int .u8 a0_0, .int .i64 a0_1, .string a0_2]] w fun e w' => e = .returned (.bool r) ∧ Below w.heap.size w w' := by
  have hu36 := Try.underlying36
  have HB := Aside0.mk (Below.refl w.heap.size w)
  have H : ((val_May.f a0_0 a0_1 a0_2).bind fun t103 => (some (!t103))) = some r := h
  clear h
  replace H := Option.bind_eq_some_iff.mp H
  obtain ⟨t103, A20, H⟩ := H
  replace H : (some (!t103)) = some r := H
  have A2 := Aside0.mk A20
  clear A20
  obtain rfl := Option.some.inj H
  go_enter Try.func55, Try.ntmps55
  go_wp2_with (first | ((with_reducible refine gate_dst (N := 1) rfl ?_); refine box_event ?hg (N := 1) ?hd (cs := #[.int .u8 a0_0, .int .i64 a0_1, .string a0_2]) (t := 36) ?hr ?_; (case hd => rfl); (case hg => rfl); (case hr => first | (go_simp; done) | (go_simp; rfl)); intro gb102 hg w3 hbox hb; have n0_ := Aside0.mk (below_step (by repeat (first | (with_reducible first | exact HB.out | apply below_alloc | apply pw_below_drewN | apply below_drew1) | exact HB.out)) hb); have n1_ := Aside0.mk (hbox); have n2_ := Aside0.mk ((by rw [hg]; exact (below_size (by repeat (first | (with_reducible first | exact HB.out | apply below_alloc | apply pw_below_drewN | apply below_drew1) | exact HB.out))) : w.heap.size ≤ gb102)); have n3_ := Aside0.mk ((by rw [hg]; exact (below_size (by repeat (first | (with_reducible first | exact HB.out | apply below_alloc | apply pw_below_drewN | apply below_drew1) | exact HB.out))) : w.heap.size ≤ gb102)); clear HB; have HB := n0_; have BK102 := n1_; have GW102 := n2_; have GE102 := n3_; clear n0_ n1_ n2_ n3_; clear hb hbox hg; have hcz4_0 : w3.cell? ⟨gb102, 0, none⟩ = some (.int .u8 a0_0) := (blk_cell BK102.out 0).trans rfl; have hcz4_1 : w3.cell? ⟨gb102, 1, none⟩ = some (.int .i64 a0_1) := (blk_cell BK102.out 1).trans rfl; have hcz4_2 : w3.cell? ⟨gb102, 2, none⟩ = some (.string a0_2) := (blk_cell BK102.out 2).trans rfl; have hfz4_0 := blk_frozen BK102.out 0; have hfz4_1 := blk_frozen BK102.out 1; have hfz4_2 := blk_frozen BK102.out 2) | ((with_reducible refine gate_callee (f := 40) rfl ?_); refine goesL_ (some 4) rfl rfl Try.func40 (by kernel_rfl) rfl #[.agg #[.int .u8 a0_0, .int .i64 a0_1, .string a0_2]] rfl (by (try simp only [List.map_toArray, List.map_cons, List.map_nil]); first | done | rfl | (simp only [List.length_drop, List.length_take]; rfl)) ?_; (with_reducible refine (val_May.calls a0_0 a0_1 a0_2 t103 _ A2.out).mono ?_); rintro e w5 ⟨rfl, hb⟩; refine ⟨_, rfl, ?_⟩; have n0_ := Aside0.mk (blk_below (g := gb102) (o := .cells #[.int .u8 a0_0, .int .i64 a0_1, .string a0_2] 36 (0, 0)) (by (with_reducible repeat (first | refine blk_drewN ?_ _ | refine blk_drew ?_ | refine blk_alloc ?_ _)); exact BK102.out) hb); have n1_ := Aside0.mk (below_step (by repeat (first | (with_reducible first | exact HB.out | apply below_alloc | apply pw_below_drewN | apply below_drew1 | refine below_set ?_ GE102.out) | exact HB.out)) hb); clear BK102; clear HB; have BK102 := n0_; have HB := n1_; clear n0_ n1_; (try clear hb); (try clear hb2); (try clear hk); (try clear hi)))
  go_ret
  exact ⟨by first | rfl | (simp [errW_none, errW_some] <;> rfl) | (simp [*, errW_none, errW_some] <;> rfl), by repeat (first | (with_reducible first | exact HB.out | apply below_alloc | apply pw_below_drewN | apply below_drew1 | refine below_set ?_ GE102.out) | exact HB.out)⟩

/-! ### api_Value_59: function 59 -/
def api_Value_59.l0 : Nat → List (S36) → Int → Int → Option (Int)
  | 0, _, _, _ => none
  | k + 1, x0, x7, x8 => if x8 < x7 then (if 0 ≤ x8 then (if x8 < (x0.length : Int) then ((rowcode_may_1.f ((rd_T36 x0 x8).f0) ((rd_T36 x0 x8).f1) ((rd_T36 x0 x8).f2)).bind fun t105 => (if t105 = true then (some x8) else (api_Value_59.l0 k x0 x7 (wrap64 (x8 + 1))))) else (none)) else (none)) else (some (-1))
def api_Value_59.f (k : Nat) (l0 : List (S36)) (a1 : Int) : Option (Int) := api_Value_59.l0 k l0 (l0.length : Int) 0
theorem api_Value_59.mono_l : ∀ k, (∀ y0 y1 y2, LeO (api_Value_59.l0 k y0 y1 y2) (api_Value_59.l0 (k + 1) y0 y1 y2))
  | 0 => fun _ _ _ r h => by simp [api_Value_59.l0] at h
  | k + 1 => by
    have ih0 := api_Value_59.mono_l k
    · intro y0 y1 y2
      unfold api_Value_59.l0
      repeat' first
      | (with_reducible exact ih0 _ _ _)
      | (with_reducible exact LeO.refl _)
      | (with_reducible exact LeO.none _)
      | (with_reducible refine LeO.ite ?_ ?_)
      | (with_reducible refine LeO.bind ?_ (fun _ => ?_))
      | exact ih0 _ _ _
      | exact LeO.none _
      | refine LeO.ite ?_ ?_
      | refine LeO.bind ?_ (fun _ => ?_)
theorem api_Value_59.mono : ∀ a0 a1 k, LeO (api_Value_59.f k a0 a1) (api_Value_59.f (k + 1) a0 a1) := by
  intro a0 a1 k
  have ih0 := api_Value_59.mono_l k
  unfold api_Value_59.f
  repeat' first
      | (with_reducible exact ih0 _ _ _)
      | (with_reducible exact LeO.refl _)
      | (with_reducible exact LeO.none _)
      | (with_reducible refine LeO.ite ?_ ?_)
      | (with_reducible refine LeO.bind ?_ (fun _ => ?_))
      | exact ih0 _ _ _
      | exact LeO.none _
      | refine LeO.ite ?_ ?_
      | refine LeO.bind ?_ (fun _ => ?_)
set_option maxHeartbeats 8000000 in
set_option maxRecDepth 100000 in
theorem api_Value_59.calls (k : Nat) (A0 : Option Addr) (c0 : Nat) (l0 : List (S36)) (a1 : Int) (r : Int) (w : World) (hr0 : Kd.C k36 w A0 l0.length l0) (hc0 : l0.length ≤ c0) (h : api_Value_59.f k l0 a1 = some r) :
    Calls Try.prog 59 #[.slice A0 l0.length c0, .func (.func 55) #[] #[]] w fun e w' => e = .returned (.int .i64 r) ∧ Below w.heap.size w w' := by
  have hu36 := Try.underlying36
  have HR0 := Aside0.mk hr0
  have HC0 := Aside0.mk hc0
  clear hr0 hc0
  have HB := Aside0.mk (Below.refl w.heap.size w)
  have H : (api_Value_59.l0 k l0 (l0.length : Int) 0) = some r := h
  clear h
  have H' := Aside0.mk H
  clear H
  go_enter Try.func59, Try.ntmps59
  go_wp2
  go_loopg [8] k (fun kq v8 w' => ∃ (x8_1 : Int), v8 = .int .i64 x8_1 ∧ Aside0 (api_Value_59.l0 kq l0 (l0.length : Int) x8_1 = some r) ∧ Aside0 (kq ≤ k) ∧ Aside0 (Below w.heap.size w w'))
  case atStart => exact ⟨(0), (by first | rfl | (simp; done) | (simp [*]; done)), H', ⟨Nat.le_refl _⟩, ⟨by repeat (first | (with_reducible first | exact HB.out | apply below_alloc | apply pw_below_drewN | apply below_drew1) | exact HB.out)⟩⟩
  case round =>
    clear H'
    try clear p2
    obtain ⟨x8_1, rfl, HA, HK1, HB⟩ := hrel
    cases gk with
    | zero => exact absurd HA.out (by simp [api_Value_59.l0])
    | succ k1 =>
      have H := HA.out
      clear HA
      simp only [api_Value_59.l0] at H
      by_cases c3 : x8_1 < (l0.length : Int)
      · rw [if_pos c3] at H
        have c3b0 : decide (x8_1 < (l0.length : Int)) = true := decide_eq_true c3
        clear c3
        by_cases c4 : 0 ≤ x8_1
        · rw [if_pos c4] at H
          have c4b0 : decide (0 ≤ x8_1) = true := decide_eq_true c4
          clear c4
          by_cases c5 : x8_1 < (l0.length : Int)
          · rw [if_pos c5] at H
            have c5b0 : decide (x8_1 < (l0.length : Int)) = true := decide_eq_true c5
            clear c5
            replace H := Option.bind_eq_some_iff.mp H
            obtain ⟨t105, A60, H⟩ := H
            replace H : (if t105 = true then (some x8_1) else (api_Value_59.l0 k1 l0 (l0.length : Int) (wrap64 (x8_1 + 1)))) = some r := H
            have A6 := Aside0.mk A60
            clear A60
            by_cases c7 : t105 = true
            · subst c7
              have H1 : (some x8_1) = some r := by rw [if_pos rfl] at H; exact H
              clear H
              have H := H1
              clear H1
              obtain rfl := Option.some.inj H
              have p104 : 0 ≤ (x8_1 : Int) := of_decide_eq_true (by first | (with_reducible assumption) | assumption)
              have q104 : x8_1 < (l0.length : Int) := of_decide_eq_true (by first | (with_reducible assumption) | assumption)
              obtain ⟨ad104, e104, hx104_0, hx104_1, hx104_2⟩ := at_T36 HR0.out x8_1 p104 q104
              cases e104
              replace hx104_0 := (HB.out.cell (World.block_lt_of_cell? w _ hx104_0)).trans hx104_0
              replace hx104_1 := (HB.out.cell (World.block_lt_of_cell? w _ hx104_1)).trans hx104_1
              replace hx104_2 := (HB.out.cell (World.block_lt_of_cell? w _ hx104_2)).trans hx104_2
              replace p104 := eq_true p104
              replace q104 := eq_true q104
              go_wp2_with (first | ((with_reducible refine gate_dst (N := 16) rfl ?_); refine goesT_ (some 16) rfl rfl Try.func55 (by kernel_rfl) rfl #[.agg #[.int .u8 ((rd_T36 l0 x8_1).f0), .int .i64 ((rd_T36 l0 x8_1).f1), .string ((rd_T36 l0 x8_1).f2)]] rfl (by (try simp only [List.map_toArray, List.map_cons, List.map_nil]); first | done | rfl | (simp only [List.length_drop, List.length_take]; rfl)) ?_; (with_reducible refine (rowcode_may_1.calls ((rd_T36 l0 x8_1).f0) ((rd_T36 l0 x8_1).f1) ((rd_T36 l0 x8_1).f2) true _ A6.out).mono ?_); rintro e w8 ⟨rfl, hb⟩; refine ⟨_, rfl, ?_⟩; have n0_ := Aside0.mk (below_step (by repeat (first | (with_reducible first | exact HB.out | apply below_alloc | apply pw_below_drewN | apply below_drew1) | exact HB.out)) hb); clear HB; have HB := n0_; clear n0_; (try clear hb); (try clear hb2); (try clear hk); (try clear hi)))
              go_ret
              exact ⟨by first | rfl | (simp [errW_none, errW_some] <;> rfl) | (simp [*, errW_none, errW_some] <;> rfl), by repeat (first | (with_reducible first | exact HB.out | apply below_alloc | apply pw_below_drewN | apply below_drew1) | exact HB.out)⟩
            · replace c7 := Bool.eq_false_iff.mpr c7
              subst c7
              have H1 : (api_Value_59.l0 k1 l0 (l0.length : Int) (wrap64 (x8_1 + 1))) = some r := by rw [if_neg (show ¬ (false = true) by decide)] at H; exact H
              clear H
              have H := H1
              clear H1
              have H' := Aside0.mk H
              clear H
              have p104 : 0 ≤ (x8_1 : Int) := of_decide_eq_true (by first | (with_reducible assumption) | assumption)
              have q104 : x8_1 < (l0.length : Int) := of_decide_eq_true (by first | (with_reducible assumption) | assumption)
              obtain ⟨ad104, e104, hx104_0, hx104_1, hx104_2⟩ := at_T36 HR0.out x8_1 p104 q104
              cases e104
              replace hx104_0 := (HB.out.cell (World.block_lt_of_cell? w _ hx104_0)).trans hx104_0
              replace hx104_1 := (HB.out.cell (World.block_lt_of_cell? w _ hx104_1)).trans hx104_1
              replace hx104_2 := (HB.out.cell (World.block_lt_of_cell? w _ hx104_2)).trans hx104_2
              replace p104 := eq_true p104
              replace q104 := eq_true q104
              go_wp2_with (first | ((with_reducible refine gate_dst (N := 16) rfl ?_); refine goesT_ (some 16) rfl rfl Try.func55 (by kernel_rfl) rfl #[.agg #[.int .u8 ((rd_T36 l0 x8_1).f0), .int .i64 ((rd_T36 l0 x8_1).f1), .string ((rd_T36 l0 x8_1).f2)]] rfl (by (try simp only [List.map_toArray, List.map_cons, List.map_nil]); first | done | rfl | (simp only [List.length_drop, List.length_take]; rfl)) ?_; (with_reducible refine (rowcode_may_1.calls ((rd_T36 l0 x8_1).f0) ((rd_T36 l0 x8_1).f1) ((rd_T36 l0 x8_1).f2) false _ A6.out).mono ?_); rintro e w9 ⟨rfl, hb⟩; refine ⟨_, rfl, ?_⟩; have n0_ := Aside0.mk (below_step (by repeat (first | (with_reducible first | exact HB.out | apply below_alloc | apply pw_below_drewN | apply below_drew1) | exact HB.out)) hb); clear HB; have HB := n0_; clear n0_; (try clear hb); (try clear hb2); (try clear hk); (try clear hi)))
              go_roundg k1
              case measure => have := HK1.out; omega
              case rel => exact ⟨(wrap64 (x8_1 + 1)), (by first | rfl | (simp; done) | (simp [*]; done)), H', ⟨by have := HK1.out; omega⟩, ⟨by repeat (first | (with_reducible first | exact HB.out | apply below_alloc | apply pw_below_drewN | apply below_drew1) | exact HB.out)⟩⟩
          · rw [if_neg c5] at H
            exact absurd H (by simp)
        · rw [if_neg c4] at H
          exact absurd H (by simp)
      · rw [if_neg c3] at H
        have c3b0 : decide (x8_1 < (l0.length : Int)) = false := decide_eq_false c3
        clear c3
        obtain rfl := Option.some.inj H
        go_wp2
        go_ret
        exact ⟨by first | rfl | (simp [errW_none, errW_some] <;> rfl) | (simp [*, errW_none, errW_some] <;> rfl), by repeat (first | (with_reducible first | exact HB.out | apply below_alloc | apply pw_below_drewN | apply below_drew1) | exact HB.out)⟩

/-! ### api_Value_54: function 54 -/
def api_Value_54.f (k : Nat) (l0 : List (S36)) (a1 : Int) : Option (Bool) := (api_Value_59.f k l0 0).bind fun t106 => (some (decide (t106 ≥ 0)))
theorem api_Value_54.mono : ∀ a0 a1 k, LeO (api_Value_54.f k a0 a1) (api_Value_54.f (k + 1) a0 a1) := by
  intro a0 a1 k
  unfold api_Value_54.f
  repeat' first
      | (with_reducible exact api_Value_59.mono _ _ _)
      | (with_reducible exact LeO.refl _)
      | (with_reducible exact LeO.none _)
      | (with_reducible refine LeO.ite ?_ ?_)
      | (with_reducible refine LeO.bind ?_ (fun _ => ?_))
      | exact api_Value_59.mono _ _ _
      | exact LeO.none _
      | refine LeO.ite ?_ ?_
      | refine LeO.bind ?_ (fun _ => ?_)
set_option maxHeartbeats 8000000 in
set_option maxRecDepth 100000 in
theorem api_Value_54.calls (k : Nat) (A0 : Option Addr) (c0 : Nat) (l0 : List (S36)) (a1 : Int) (r : Bool) (w : World) (hr0 : Kd.C k36 w A0 l0.length l0) (hc0 : l0.length ≤ c0) (h : api_Value_54.f k l0 a1 = some r) :
    Calls Try.prog 54 #[.slice A0 l0.length c0, .func (.func 55) #[] #[]] w fun e w' => e = .returned (.bool r) ∧ Below w.heap.size w w' := by
  have HR0 := Aside0.mk hr0
  have HC0 := Aside0.mk hc0
  clear hr0 hc0
  have HB := Aside0.mk (Below.refl w.heap.size w)
  have H : ((api_Value_59.f k l0 0).bind fun t106 => (some (decide (t106 ≥ 0)))) = some r := h
  clear h
  replace H := Option.bind_eq_some_iff.mp H
  obtain ⟨t106, A30, H⟩ := H
  replace H : (some (decide (t106 ≥ 0))) = some r := H
  have A3 := Aside0.mk A30
  clear A30
  obtain rfl := Option.some.inj H
  go_enter Try.func54, Try.ntmps54
  go_wp2_with (first | ((with_reducible refine gate_callee (f := 59) rfl ?_); refine goesL_ (some 7) rfl rfl Try.func59 (by kernel_rfl) rfl #[.slice A0 l0.length c0, .func (.func 55) #[] #[]] rfl (by (try simp only [List.map_toArray, List.map_cons, List.map_nil]); first | done | rfl | (simp only [List.length_drop, List.length_take]; rfl)) ?_; (with_reducible refine (api_Value_59.calls k _ _ l0 0 t106 _ ?side1 ?side2 A3.out).mono ?_); (case side1 => repeat (first | exact HR0.out | (with_reducible refine Kd.C_alloc ?_ _) | (with_reducible refine Kd.C_drewN ?_ _) | (with_reducible refine Kd.C_drew ?_))); (case side2 => exact HC0.out); rintro e w4 ⟨rfl, hb⟩; refine ⟨_, rfl, ?_⟩; have n0_ := Aside0.mk (below_step (by repeat (first | (with_reducible first | exact HB.out | apply below_alloc | apply pw_below_drewN | apply below_drew1) | exact HB.out)) hb); clear HB; have HB := n0_; clear n0_; (try clear hb); (try clear hb2); (try clear hk); (try clear hi)))
  go_ret
  exact ⟨by first | rfl | (simp [errW_none, errW_some] <;> rfl) | (simp [*, errW_none, errW_some] <;> rfl), by repeat (first | (with_reducible first | exact HB.out | apply below_alloc | apply pw_below_drewN | apply below_drew1) | exact HB.out)⟩

/-! ### rowcode_may: function 46 -/
def rowcode_may.f (k : Nat) (l0 : List (S36)) : Option (Int) := (api_Value_54.f k l0 0).bind fun t107 => (if t107 = true then (some 1) else (if (l0.length : Int) > 255 then (some 15) else (some 0)))
theorem rowcode_may.mono : ∀ a0 k, LeO (rowcode_may.f k a0) (rowcode_may.f (k + 1) a0) := by
  intro a0 k
  unfold rowcode_may.f
  repeat' first
      | (with_reducible exact api_Value_54.mono _ _ _)
      | (with_reducible exact LeO.refl _)
      | (with_reducible exact LeO.none _)
      | (with_reducible refine LeO.ite ?_ ?_)
      | (with_reducible refine LeO.bind ?_ (fun _ => ?_))
      | exact api_Value_54.mono _ _ _
      | exact LeO.none _
      | refine LeO.ite ?_ ?_
      | refine LeO.bind ?_ (fun _ => ?_)
set_option maxHeartbeats 8000000 in
set_option maxRecDepth 100000 in
theorem rowcode_may.calls (k : Nat) (A0 : Option Addr) (c0 : Nat) (l0 : List (S36)) (r : Int) (w : World) (hr0 : Kd.C k36 w A0 l0.length l0) (hc0 : l0.length ≤ c0) (h : rowcode_may.f k l0 = some r) :
    Calls Try.prog 46 #[.slice A0 l0.length c0] w fun e w' => e = .returned (.int .i64 r) ∧ Below w.heap.size w w' := by
  have HR0 := Aside0.mk hr0
  have HC0 := Aside0.mk hc0
  clear hr0 hc0
  have HB := Aside0.mk (Below.refl w.heap.size w)
  have H : ((api_Value_54.f k l0 0).bind fun t107 => (if t107 = true then (some 1) else (if (l0.length : Int) > 255 then (some 15) else (some 0)))) = some r := h
  clear h
  replace H := Option.bind_eq_some_iff.mp H
  obtain ⟨t107, A20, H⟩ := H
  replace H : (if t107 = true then (some 1) else (if (l0.length : Int) > 255 then (some 15) else (some 0))) = some r := H
  have A2 := Aside0.mk A20
  clear A20
  by_cases c3 : t107 = true
  · subst c3
    have H1 : (some 1) = some r := by rw [if_pos rfl] at H; exact H
    clear H
    have H := H1
    clear H1
    obtain rfl := Option.some.inj H
    go_enter Try.func46, Try.ntmps46
    go_wp2_with (first | ((with_reducible refine gate_callee (f := 54) rfl ?_); refine goesL_ (some 4) rfl rfl Try.func54 (by kernel_rfl) rfl #[.slice A0 l0.length c0, .func (.func 55) #[] #[]] rfl (by (try simp only [List.map_toArray, List.map_cons, List.map_nil]); first | done | rfl | (simp only [List.length_drop, List.length_take]; rfl)) ?_; (with_reducible refine (api_Value_54.calls k _ _ l0 0 true _ ?side1 ?side2 A2.out).mono ?_); (case side1 => repeat (first | exact HR0.out | (with_reducible refine Kd.C_alloc ?_ _) | (with_reducible refine Kd.C_drewN ?_ _) | (with_reducible refine Kd.C_drew ?_))); (case side2 => exact HC0.out); rintro e w4 ⟨rfl, hb⟩; refine ⟨_, rfl, ?_⟩; have n0_ := Aside0.mk (below_step (by repeat (first | (with_reducible first | exact HB.out | apply below_alloc | apply pw_below_drewN | apply below_drew1) | exact HB.out)) hb); clear HB; have HB := n0_; clear n0_; (try clear hb); (try clear hb2); (try clear hk); (try clear hi)))
    go_ret
    exact ⟨by first | rfl | (simp [errW_none, errW_some] <;> rfl) | (simp [*, errW_none, errW_some] <;> rfl), by repeat (first | (with_reducible first | exact HB.out | apply below_alloc | apply pw_below_drewN | apply below_drew1) | exact HB.out)⟩
  · replace c3 := Bool.eq_false_iff.mpr c3
    subst c3
    have H1 : (if (l0.length : Int) > 255 then (some 15) else (some 0)) = some r := by rw [if_neg (show ¬ (false = true) by decide)] at H; exact H
    clear H
    have H := H1
    clear H1
    by_cases c5 : (l0.length : Int) > 255
    · rw [if_pos c5] at H
      have c5b0 : decide (255 < (l0.length : Int)) = true := decide_eq_true c5
      have c5b1 : decide (255 < l0.length) = true := decide_eq_true (by omega)
      clear c5
      obtain rfl := Option.some.inj H
      go_enter Try.func46, Try.ntmps46
      go_wp2_with (first | ((with_reducible refine gate_callee (f := 54) rfl ?_); refine goesL_ (some 4) rfl rfl Try.func54 (by kernel_rfl) rfl #[.slice A0 l0.length c0, .func (.func 55) #[] #[]] rfl (by (try simp only [List.map_toArray, List.map_cons, List.map_nil]); first | done | rfl | (simp only [List.length_drop, List.length_take]; rfl)) ?_; (with_reducible refine (api_Value_54.calls k _ _ l0 0 false _ ?side1 ?side2 A2.out).mono ?_); (case side1 => repeat (first | exact HR0.out | (with_reducible refine Kd.C_alloc ?_ _) | (with_reducible refine Kd.C_drewN ?_ _) | (with_reducible refine Kd.C_drew ?_))); (case side2 => exact HC0.out); rintro e w6 ⟨rfl, hb⟩; refine ⟨_, rfl, ?_⟩; have n0_ := Aside0.mk (below_step (by repeat (first | (with_reducible first | exact HB.out | apply below_alloc | apply pw_below_drewN | apply below_drew1) | exact HB.out)) hb); clear HB; have HB := n0_; clear n0_; (try clear hb); (try clear hb2); (try clear hk); (try clear hi)))
      go_ret
      exact ⟨by first | rfl | (simp [errW_none, errW_some] <;> rfl) | (simp [*, errW_none, errW_some] <;> rfl), by repeat (first | (with_reducible first | exact HB.out | apply below_alloc | apply pw_below_drewN | apply below_drew1) | exact HB.out)⟩
    · rw [if_neg c5] at H
      have c5b0 : decide (255 < (l0.length : Int)) = false := decide_eq_false c5
      have c5b1 : decide (255 < l0.length) = false := decide_eq_false (by omega)
      clear c5
      obtain rfl := Option.some.inj H
      go_enter Try.func46, Try.ntmps46
      go_wp2_with (first | ((with_reducible refine gate_callee (f := 54) rfl ?_); refine goesL_ (some 4) rfl rfl Try.func54 (by kernel_rfl) rfl #[.slice A0 l0.length c0, .func (.func 55) #[] #[]] rfl (by (try simp only [List.map_toArray, List.map_cons, List.map_nil]); first | done | rfl | (simp only [List.length_drop, List.length_take]; rfl)) ?_; (with_reducible refine (api_Value_54.calls k _ _ l0 0 false _ ?side1 ?side2 A2.out).mono ?_); (case side1 => repeat (first | exact HR0.out | (with_reducible refine Kd.C_alloc ?_ _) | (with_reducible refine Kd.C_drewN ?_ _) | (with_reducible refine Kd.C_drew ?_))); (case side2 => exact HC0.out); rintro e w7 ⟨rfl, hb⟩; refine ⟨_, rfl, ?_⟩; have n0_ := Aside0.mk (below_step (by repeat (first | (with_reducible first | exact HB.out | apply below_alloc | apply pw_below_drewN | apply below_drew1) | exact HB.out)) hb); clear HB; have HB := n0_; clear n0_; (try clear hb); (try clear hb2); (try clear hk); (try clear hi)))
      go_ret
      exact ⟨by first | rfl | (simp [errW_none, errW_some] <;> rfl) | (simp [*, errW_none, errW_some] <;> rfl), by repeat (first | (with_reducible first | exact HB.out | apply below_alloc | apply pw_below_drewN | apply below_drew1) | exact HB.out)⟩

/-! ### rowcode_one: function 47 -/
def rowcode_one.l0 : Nat → List Int → Int → Int → Int → ByteArray → Option (List Int)
  | 0, _, _, _, _, _ => none
  | k + 1, x0, x15, x109000, x109001, x109002 => if x15 < 8 then (if 0 ≤ (wrap64 (56 - (wrap64 (8 * x15)))) then (if x0.length < 140737488355328 then (rowcode_one.l0 k (x0 ++ [(shr .i64 x109001 (wrap64 (56 - (wrap64 (8 * x15))))) % 256]) (wrap64 (x15 + 1)) x109000 x109001 x109002) else (none)) else (none)) else (some x0)
def rowcode_one.f (k : Nat) (l0 : List Int) (a1_0 : Int) (a1_1 : Int) (a1_2 : ByteArray) : Option (List Int) := if l0.length < 140737488355328 then ((some (l0 ++ [a1_0] : List Int)).bind fun y109 => (if a1_0 = 1 then (rowcode_one.l0 k y109 0 a1_0 a1_1 a1_2) else (if a1_0 = 2 then (if y109.length < 140737488355328 then (some (y109 ++ [(a1_1) % 256])) else (none)) else (if a1_0 = 3 then (if y109.length < 140737488355328 then ((some (y109 ++ [((a1_2.size : Int)) % 256] : List Int)).bind fun y118 => (if y118.length + a1_2.size < 140737488355328 then (some (y118 ++ bytesOf a1_2)) else (none))) else (none)) else (some y109))))) else (none)
theorem rowcode_one.mono_l : ∀ k, (∀ y0 y1 y2 y3 y4, LeO (rowcode_one.l0 k y0 y1 y2 y3 y4) (rowcode_one.l0 (k + 1) y0 y1 y2 y3 y4))
  | 0 => fun _ _ _ _ _ r h => by simp [rowcode_one.l0] at h
  | k + 1 => by
    have ih0 := rowcode_one.mono_l k
    · intro y0 y1 y2 y3 y4
      unfold rowcode_one.l0
      repeat' first
      | (with_reducible exact ih0 _ _ _ _ _)
      | (with_reducible exact LeO.refl _)
      | (with_reducible exact LeO.none _)
      | (with_reducible refine LeO.ite ?_ ?_)
      | (with_reducible refine LeO.bind ?_ (fun _ => ?_))
      | exact ih0 _ _ _ _ _
      | exact LeO.none _
      | refine LeO.ite ?_ ?_
      | refine LeO.bind ?_ (fun _ => ?_)
theorem rowcode_one.mono : ∀ a0 a1 a2 a3 k, LeO (rowcode_one.f k a0 a1 a2 a3) (rowcode_one.f (k + 1) a0 a1 a2 a3) := by
  intro a0 a1 a2 a3 k
  have ih0 := rowcode_one.mono_l k
  unfold rowcode_one.f
  repeat' first
      | (with_reducible exact ih0 _ _ _ _ _)
      | (with_reducible exact LeO.refl _)
      | (with_reducible exact LeO.none _)
      | (with_reducible refine LeO.ite ?_ ?_)
      | (with_reducible refine LeO.bind ?_ (fun _ => ?_))
      | exact ih0 _ _ _ _ _
      | exact LeO.none _
      | refine LeO.ite ?_ ?_
      | refine LeO.bind ?_ (fun _ => ?_)
set_option maxHeartbeats 8000000 in
set_option maxRecDepth 100000 in
theorem rowcode_one.calls (k : Nat) (P0_ : Nat → Prop) (u9000_ : Value) (l0 : List Int) (a1_0 : Int) (a1_1 : Int) (a1_2 : ByteArray) (r : List Int) (w0 w : World) (hB : Below w0.heap.size w0 w) (ho0 : Kd.R (Kd.int .u8) 5 w w0.heap.size P0_ u9000_ l0) (h : rowcode_one.f k l0 a1_0 a1_1 a1_2 = some r) :
    Calls Try.prog 47 #[u9000_, .agg #[.int .u8 a1_0, .int .i64 a1_1, .string a1_2]] w fun e w' => ∃ v0_ : Value, e = .returned (v0_) ∧ Kd.R (Kd.int .u8) 5 w' w0.heap.size (fun k_ => (P0_ k_ ∨ w.heap.size ≤ k_)) v0_ r ∧ Below w0.heap.size w0 w' ∧ Kept w w' (fun k_ => P0_ k_) := by
  have hu36 := Try.underlying36
  have HO0 := Aside0.mk (show Kd.R (Kd.int .u8) 5 w w0.heap.size (fun k_ => (P0_ k_ ∨ w.heap.size ≤ k_)) u9000_ l0 from Kd.R_mono ho0 (fun k_ hk => (.inl hk)))
  have HK := Aside0.mk (Kept.refl w (fun k_ => P0_ k_))
  have HW0 := Aside0.mk hB.size
  have HB := Aside0.mk hB
  clear hB
  have H : (if l0.length < 140737488355328 then ((some (l0 ++ [a1_0] : List Int)).bind fun y109 => (if a1_0 = 1 then (rowcode_one.l0 k y109 0 a1_0 a1_1 a1_2) else (if a1_0 = 2 then (if y109.length < 140737488355328 then (some (y109 ++ [(a1_1) % 256])) else (none)) else (if a1_0 = 3 then (if y109.length < 140737488355328 then ((some (y109 ++ [((a1_2.size : Int)) % 256] : List Int)).bind fun y118 => (if y118.length + a1_2.size < 140737488355328 then (some (y118 ++ bytesOf a1_2)) else (none))) else (none)) else (some y109))))) else (none)) = some r := h
  clear h
  by_cases c3 : l0.length < 140737488355328
  · rw [if_pos c3] at H
    have LMc3 := Aside0.mk c3
    clear c3
    obtain ⟨y109, hy109⟩ : ∃ y_ : List Int, y_ = (l0 ++ [a1_0]) := ⟨_, rfl⟩
    replace H : (if a1_0 = 1 then (rowcode_one.l0 k y109 0 a1_0 a1_1 a1_2) else (if a1_0 = 2 then (if y109.length < 140737488355328 then (some (y109 ++ [(a1_1) % 256])) else (none)) else (if a1_0 = 3 then (if y109.length < 140737488355328 then ((some (y109 ++ [((a1_2.size : Int)) % 256] : List Int)).bind fun y118 => (if y118.length + a1_2.size < 140737488355328 then (some (y118 ++ bytesOf a1_2)) else (none))) else (none)) else (some y109)))) = some r := by first | (rw [hy109]; with_reducible exact H) | (have H2_ := (Option.bind_some _ _).symm.trans H; rw [hy109]; with_reducible exact H2_) | (have H2_ := (Option.bind_some _ _).symm.trans H; with_reducible exact H2_) | with_reducible exact H | (rw [hy109]; exact H) | exact H
    have Ny109 := Aside0.mk hy109
    clear hy109
    by_cases c4 : a1_0 = 1
    · rw [if_pos c4] at H
      have c4b0 : (a1_0 == 1) = true := beq_iff_eq.mpr c4
      have c4b1 : (a1_0 != 1) = false := bne_eq_false_iff_eq.mpr c4
      clear c4
      have H' := Aside0.mk H
      clear H
      go_enter Try.func47, Try.ntmps47
      go_wp2_with (first | ((with_reducible refine gate_dst (N := 3) rfl ?_); refine box_event ?hg (N := 3) ?hd (cs := #[.int .u8 a1_0, .int .i64 a1_1, .string a1_2]) (t := 36) ?hr ?_; (case hd => rfl); (case hg => rfl); (case hr => first | (go_simp; done) | (go_simp; rfl)); intro gb108 hg w5 hbox hb; have n0_ := Aside0.mk (Kd.R_below (by (with_reducible repeat (first | apply Kd.R_alloc | apply Kd.R_drewN | apply Kd.R_drew)); exact HO0.out) hb); have n1_ := Aside0.mk (Kept.below (S := (fun k_ => P0_ k_)) (by repeat (first | (with_reducible first | exact HK.out | apply Kept.alloc | apply Kept.drewN | apply Kept.drew) | exact HK.out)) hb); have n2_ := Aside0.mk (below_step (by repeat (first | (with_reducible first | exact HB.out | apply below_alloc | apply pw_below_drewN | apply below_drew1) | exact HB.out)) hb); have n3_ := Aside0.mk (hbox); have n4_ := Aside0.mk ((by rw [hg]; exact (by first | exact HK.out.1 | exact (show Kept w _ (fun k_ => P0_ k_) from by repeat (first | (with_reducible first | exact HK.out | apply Kept.alloc | apply Kept.drewN | apply Kept.drew) | exact HK.out)).1) : w.heap.size ≤ gb108)); have n5_ := Aside0.mk ((by rw [hg]; exact (below_size (by repeat (first | (with_reducible first | exact HB.out | apply below_alloc | apply pw_below_drewN | apply below_drew1) | exact HB.out))) : w0.heap.size ≤ gb108)); clear HO0; clear HK; clear HB; have HO0 := n0_; have HK := n1_; have HB := n2_; have BK108 := n3_; have GW108 := n4_; have GE108 := n5_; clear n0_ n1_ n2_ n3_ n4_ n5_; clear hb hbox hg; have hcz6_0 : w5.cell? ⟨gb108, 0, none⟩ = some (.int .u8 a1_0) := (blk_cell BK108.out 0).trans rfl; have hcz6_1 : w5.cell? ⟨gb108, 1, none⟩ = some (.int .i64 a1_1) := (blk_cell BK108.out 1).trans rfl; have hcz6_2 : w5.cell? ⟨gb108, 2, none⟩ = some (.string a1_2) := (blk_cell BK108.out 2).trans rfl; have hfz6_0 := blk_frozen BK108.out 0; have hfz6_1 := blk_frozen BK108.out 1; have hfz6_2 := blk_frozen BK108.out 2) | ((with_reducible refine gate_builtin (b := .append) (xs := #[.tmp 6, .tmp 9]) rfl ?_); at_builtin; refine Kd.R_append (Kd.int .u8) (w0 := w0) w0.heap.size rfl (.tmp 6) (.tmp 9) 49 5 (.int .u8 0) 1 rfl Try.underlying49 info5 rfl (by decide) (by omega) u9000_ l0 a1_0 [.int .u8 a1_0] (fun k_ => (P0_ k_ ∨ w.heap.size ≤ k_)) (fun _ => False) rfl rfl ?aP (fun _ hk => hk.elim) ?aF ?aO ?aB ?aS ?aL ?_; (case aP => exact rfl); (case aB => exact (by repeat (first | (with_reducible first | exact HB.out | apply below_alloc | apply pw_below_drewN | apply below_drew1 | refine below_set ?_ GE108.out) | exact HB.out))); (case aF => exact (fun k_ hk => (.inr (Nat.le_trans (by first | exact HK.out.1 | exact (show Kept w _ (fun k_ => P0_ k_) from by repeat (first | (with_reducible first | exact HK.out | apply Kept.alloc | apply Kept.drewN | apply Kept.drew | refine Kept.setCell ?_ (.inr GW108.out) _) | exact HK.out)).1) hk)))); (case aO => exact (by (with_reducible repeat (first | apply Kd.R_alloc | apply Kd.R_drewN | apply Kd.R_drew)); exact HO0.out)); (case aS => exact (below_size (by repeat (first | (with_reducible first | exact HB.out | apply below_alloc | apply pw_below_drewN | apply below_drew1 | refine below_set ?_ GE108.out) | exact HB.out)))); (case aL => have := LMc3.out; omega); intro v110 w7 ho hb hg hat; rw [← Ny109.out] at ho; have n0_ := Aside0.mk (blk_grown (g := gb108) (o := .cells #[.int .u8 a1_0, .int .i64 a1_1, .string a1_2] 36 (0, 0)) (by (with_reducible repeat (first | refine blk_drewN ?_ _ | refine blk_drew ?_ | refine blk_alloc ?_ _)); exact BK108.out) hg (Kd.R_ne HO0.out BK108.out (by decide))); have n1_ := Aside0.mk (hb); have n2_ := Aside0.mk (Kept.of_grown (S := (fun k_ => P0_ k_)) hg (by repeat (first | (with_reducible first | exact HK.out | apply Kept.alloc | apply Kept.drewN | apply Kept.drew | refine Kept.setCell ?_ (.inr GW108.out) _) | exact HK.out)) (fun k_ e_ => (HO0.out.1 k_ e_))); have n3_ := Aside0.mk (ho); clear BK108; clear HB; clear HK; clear HO0; have BK108 := n0_; have HB := n1_; have HK := n2_; have HO111 := n3_; clear n0_ n1_ n2_ n3_; clear ho hb hg hat; have hcz8_0 : w7.cell? ⟨gb108, 0, none⟩ = some (.int .u8 a1_0) := (blk_cell BK108.out 0).trans rfl; have hcz8_1 : w7.cell? ⟨gb108, 1, none⟩ = some (.int .i64 a1_1) := (blk_cell BK108.out 1).trans rfl; have hcz8_2 : w7.cell? ⟨gb108, 2, none⟩ = some (.string a1_2) := (blk_cell BK108.out 2).trans rfl; have hfz8_0 := blk_frozen BK108.out 0; have hfz8_1 := blk_frozen BK108.out 1; have hfz8_2 := blk_frozen BK108.out 2))
      go_loopg [0, 15] k (fun kq v0 v15 w' => ∃ (x0_1 : List Int) (x15_1 : Int), v15 = .int .i64 x15_1 ∧ Aside0 (rowcode_one.l0 kq x0_1 x15_1 a1_0 a1_1 a1_2 = some r) ∧ Aside0 (kq ≤ k) ∧ Aside0 (Kd.R (Kd.int .u8) 5 w' w0.heap.size (fun k_ => (P0_ k_ ∨ w.heap.size ≤ k_)) v0 x0_1) ∧ Aside0 (w'.heap[gb108]? = some (.cells #[.int .u8 a1_0, .int .i64 a1_1, .string a1_2] 36 (0, 0))) ∧ Aside0 (Kept w w' (fun k_ => P0_ k_)) ∧ Aside0 (Below w0.heap.size w0 w'))
      case atStart => exact ⟨(y109), (0), (by first | rfl | (simp; done) | (simp [*]; done)), H', ⟨Nat.le_refl _⟩, ⟨by (with_reducible repeat (first | apply Kd.R_alloc | apply Kd.R_drewN | apply Kd.R_drew)); exact HO111.out⟩, ⟨by (with_reducible repeat (first | refine blk_drewN ?_ _ | refine blk_drew ?_ | refine blk_alloc ?_ _)); exact BK108.out⟩, ⟨by repeat (first | (with_reducible first | exact HK.out | apply Kept.alloc | apply Kept.drewN | apply Kept.drew | refine Kept.setCell ?_ (.inr GW108.out) _) | exact HK.out)⟩, ⟨by repeat (first | (with_reducible first | exact HB.out | apply below_alloc | apply pw_below_drewN | apply below_drew1 | refine below_set ?_ GE108.out) | exact HB.out)⟩⟩
      case round =>
        clear H'
        try clear p2
        try clear c3
        try clear c4
        try clear c4b0
        try clear c4b1
        try clear hcz6_0
        try clear hcz6_1
        try clear hcz6_2
        try clear hcz8_0
        try clear hcz8_1
        try clear hcz8_2
        try clear hfz6_0
        try clear hfz6_1
        try clear hfz6_2
        try clear hfz8_0
        try clear hfz8_1
        try clear hfz8_2
        obtain ⟨x0_1, x15_1, rfl, HA, HK1, HO_0, BK108, HK, HB⟩ := hrel
        cases gk with
        | zero => exact absurd HA.out (by simp [rowcode_one.l0])
        | succ k1 =>
          have H := HA.out
          clear HA
          simp only [rowcode_one.l0] at H
          by_cases c9 : x15_1 < 8
          · rw [if_pos c9] at H
            have c9b0 : decide (x15_1 < 8) = true := decide_eq_true c9
            clear c9
            obtain ⟨ji10, hji10⟩ : ∃ j_ : Int, (wrap64 (56 - (wrap64 (8 * x15_1)))) = j_ := ⟨_, rfl⟩
            replace H : (if 0 ≤ (ji10) then (if x0_1.length < 140737488355328 then (rowcode_one.l0 k1 (x0_1 ++ [(shr .i64 a1_1 (ji10)) % 256]) (wrap64 (x15_1 + 1)) a1_0 a1_1 a1_2) else (none)) else (none)) = some r := by first | (rw [hji10] at H; exact H) | (simp only [hji10] at H ⊢; exact H)
            have hji10w : (IntKind.i64.wrap (56 - (wrap64 (8 * x15_1)))) = ji10 := (i64_w _).trans hji10
            by_cases c11 : 0 ≤ (ji10)
            · rw [if_pos c11] at H
              have c11b0 := eq_true c11
              have c11b1 : decide (0 ≤ (ji10)) = true := decide_eq_true c11
              clear c11
              obtain ⟨ji12, hji12⟩ : ∃ j_ : Int, (shr .i64 a1_1 (ji10)) = j_ := ⟨_, rfl⟩
              replace H : (if x0_1.length < 140737488355328 then (rowcode_one.l0 k1 (x0_1 ++ [(ji12) % 256]) (wrap64 (x15_1 + 1)) a1_0 a1_1 a1_2) else (none)) = some r := by first | (rw [hji12] at H; exact H) | (simp only [hji12] at H ⊢; exact H)
              have hji12_ : (a1_1 / 2 ^ min (ji10).toNat 64) = ji12 := hji12
              have hji12z : (ji10) ≤ 64 → (a1_1 / 2 ^ (ji10).toNat) = ji12 := shr_small hji12
              by_cases c13 : x0_1.length < 140737488355328
              · rw [if_pos c13] at H
                have LMc13 := Aside0.mk c13
                clear c13
                obtain ⟨y112, hy112⟩ : ∃ y_ : List Int, y_ = (x0_1 ++ [(ji12) % 256]) := ⟨_, rfl⟩
                replace H : (rowcode_one.l0 k1 y112 (wrap64 (x15_1 + 1)) a1_0 a1_1 a1_2) = some r := by first | (rw [hy112]; with_reducible exact H) | (have H2_ := (Option.bind_some _ _).symm.trans H; rw [hy112]; with_reducible exact H2_) | (have H2_ := (Option.bind_some _ _).symm.trans H; with_reducible exact H2_) | with_reducible exact H | (rw [hy112]; exact H) | exact H
                have Ny112 := Aside0.mk hy112
                clear hy112
                have H' := Aside0.mk H
                clear H
                have hcz14_0 : wr.cell? ⟨gb108, 0, none⟩ = some (.int .u8 a1_0) := (blk_cell BK108.out 0).trans rfl
                have hcz14_1 : wr.cell? ⟨gb108, 1, none⟩ = some (.int .i64 a1_1) := (blk_cell BK108.out 1).trans rfl
                have hcz14_2 : wr.cell? ⟨gb108, 2, none⟩ = some (.string a1_2) := (blk_cell BK108.out 2).trans rfl
                have hfz14_0 := blk_frozen BK108.out 0
                have hfz14_1 := blk_frozen BK108.out 1
                have hfz14_2 := blk_frozen BK108.out 2
                go_wp2_with (first | ((with_reducible refine gate_builtin (b := .append) (xs := #[.tmp 18, .tmp 26]) rfl ?_); at_builtin; refine Kd.R_append (Kd.int .u8) (w0 := w0) w0.heap.size rfl (.tmp 18) (.tmp 26) 49 5 (.int .u8 0) 1 rfl Try.underlying49 info5 rfl (by decide) (by omega) u0 x0_1 ((ji12) % 256) [.int .u8 ((ji12) % 256)] (fun k_ => (P0_ k_ ∨ w.heap.size ≤ k_)) (fun _ => False) rfl rfl ?aP (fun _ hk => hk.elim) ?aF ?aO ?aB ?aS ?aL ?_; (case aP => exact rfl); (case aB => exact (by repeat (first | (with_reducible first | exact HB.out | apply below_alloc | apply pw_below_drewN | apply below_drew1 | refine below_set ?_ GE108.out) | exact HB.out))); (case aF => exact (fun k_ hk => (.inr (Nat.le_trans (by first | exact HK.out.1 | exact (show Kept w _ (fun k_ => P0_ k_) from by repeat (first | (with_reducible first | exact HK.out | apply Kept.alloc | apply Kept.drewN | apply Kept.drew | refine Kept.setCell ?_ (.inr GW108.out) _) | exact HK.out)).1) hk)))); (case aO => exact (by (with_reducible repeat (first | apply Kd.R_alloc | apply Kd.R_drewN | apply Kd.R_drew)); exact HO_0.out)); (case aS => exact (below_size (by repeat (first | (with_reducible first | exact HB.out | apply below_alloc | apply pw_below_drewN | apply below_drew1 | refine below_set ?_ GE108.out) | exact HB.out)))); (case aL => have := LMc13.out; omega); intro v113 w15 ho hb hg hat; rw [← Ny112.out] at ho; have n0_ := Aside0.mk (blk_grown (g := gb108) (o := .cells #[.int .u8 a1_0, .int .i64 a1_1, .string a1_2] 36 (0, 0)) (by (with_reducible repeat (first | refine blk_drewN ?_ _ | refine blk_drew ?_ | refine blk_alloc ?_ _)); exact BK108.out) hg (Kd.R_ne HO_0.out BK108.out (by decide))); have n1_ := Aside0.mk (hb); have n2_ := Aside0.mk (Kept.of_grown (S := (fun k_ => P0_ k_)) hg (by repeat (first | (with_reducible first | exact HK.out | apply Kept.alloc | apply Kept.drewN | apply Kept.drew | refine Kept.setCell ?_ (.inr GW108.out) _) | exact HK.out)) (fun k_ e_ => (HO_0.out.1 k_ e_))); have n3_ := Aside0.mk (ho); clear BK108; clear HB; clear HK; clear HO_0; have BK108 := n0_; have HB := n1_; have HK := n2_; have HO114 := n3_; clear n0_ n1_ n2_ n3_; clear ho hb hg hat))
                go_roundg k1
                case measure => have := HK1.out; omega
                case rel => exact ⟨(y112), (wrap64 (x15_1 + 1)), (by first | rfl | (simp; done) | (simp [*]; done)), H', ⟨by have := HK1.out; omega⟩, ⟨by (with_reducible repeat (first | apply Kd.R_alloc | apply Kd.R_drewN | apply Kd.R_drew)); exact HO114.out⟩, ⟨by (with_reducible repeat (first | refine blk_drewN ?_ _ | refine blk_drew ?_ | refine blk_alloc ?_ _)); exact BK108.out⟩, ⟨by repeat (first | (with_reducible first | exact HK.out | apply Kept.alloc | apply Kept.drewN | apply Kept.drew | refine Kept.setCell ?_ (.inr GW108.out) _) | exact HK.out)⟩, ⟨by repeat (first | (with_reducible first | exact HB.out | apply below_alloc | apply pw_below_drewN | apply below_drew1 | refine below_set ?_ GE108.out) | exact HB.out)⟩⟩
              · rw [if_neg c13] at H
                exact absurd H (by simp)
            · rw [if_neg c11] at H
              exact absurd H (by simp)
          · rw [if_neg c9] at H
            have c9b0 : decide (x15_1 < 8) = false := decide_eq_false c9
            clear c9
            obtain rfl := Option.some.inj H
            go_wp2
            go_ret
            exact ⟨_, by first | rfl | (simp [errW_none, errW_some] <;> rfl) | (simp [*, errW_none, errW_some] <;> rfl), by (with_reducible repeat (first | apply Kd.R_alloc | apply Kd.R_drewN | apply Kd.R_drew)); exact HO_0.out, by repeat (first | (with_reducible first | exact HB.out | apply below_alloc | apply pw_below_drewN | apply below_drew1 | refine below_set ?_ GE108.out) | exact HB.out), by repeat (first | (with_reducible first | exact HK.out | apply Kept.alloc | apply Kept.drewN | apply Kept.drew | refine Kept.setCell ?_ (.inr GW108.out) _) | exact HK.out)⟩
    · rw [if_neg c4] at H
      have c4b0 : (a1_0 == 1) = false := beq_eq_false_iff_ne.mpr c4
      have c4b1 : (a1_0 != 1) = true := bne_iff_ne.mpr c4
      by_cases c16 : a1_0 = 2
      · rw [if_pos c16] at H
        have c16b0 : (a1_0 == 2) = true := beq_iff_eq.mpr c16
        have c16b1 : (a1_0 != 2) = false := bne_eq_false_iff_eq.mpr c16
        clear c16
        by_cases c17 : y109.length < 140737488355328
        · rw [if_pos c17] at H
          have LMc17 := Aside0.mk c17
          clear c17
          obtain ⟨y115, hy115⟩ : ∃ y_ : List Int, y_ = (y109 ++ [(a1_1) % 256]) := ⟨_, rfl⟩
          replace H : (some y115) = some r := by first | (rw [hy115]; with_reducible exact H) | (have H2_ := (Option.bind_some _ _).symm.trans H; rw [hy115]; with_reducible exact H2_) | (have H2_ := (Option.bind_some _ _).symm.trans H; with_reducible exact H2_) | with_reducible exact H | (rw [hy115]; exact H) | exact H
          have Ny115 := Aside0.mk hy115
          clear hy115
          obtain rfl := Option.some.inj H
          go_enter Try.func47, Try.ntmps47
          go_wp2_with (first | ((with_reducible refine gate_dst (N := 3) rfl ?_); refine box_event ?hg (N := 3) ?hd (cs := #[.int .u8 a1_0, .int .i64 a1_1, .string a1_2]) (t := 36) ?hr ?_; (case hd => rfl); (case hg => rfl); (case hr => first | (go_simp; done) | (go_simp; rfl)); intro gb108 hg w18 hbox hb; have n0_ := Aside0.mk (Kd.R_below (by (with_reducible repeat (first | apply Kd.R_alloc | apply Kd.R_drewN | apply Kd.R_drew)); exact HO0.out) hb); have n1_ := Aside0.mk (Kept.below (S := (fun k_ => P0_ k_)) (by repeat (first | (with_reducible first | exact HK.out | apply Kept.alloc | apply Kept.drewN | apply Kept.drew) | exact HK.out)) hb); have n2_ := Aside0.mk (below_step (by repeat (first | (with_reducible first | exact HB.out | apply below_alloc | apply pw_below_drewN | apply below_drew1) | exact HB.out)) hb); have n3_ := Aside0.mk (hbox); have n4_ := Aside0.mk ((by rw [hg]; exact (by first | exact HK.out.1 | exact (show Kept w _ (fun k_ => P0_ k_) from by repeat (first | (with_reducible first | exact HK.out | apply Kept.alloc | apply Kept.drewN | apply Kept.drew) | exact HK.out)).1) : w.heap.size ≤ gb108)); have n5_ := Aside0.mk ((by rw [hg]; exact (below_size (by repeat (first | (with_reducible first | exact HB.out | apply below_alloc | apply pw_below_drewN | apply below_drew1) | exact HB.out))) : w0.heap.size ≤ gb108)); clear HO0; clear HK; clear HB; have HO0 := n0_; have HK := n1_; have HB := n2_; have BK108 := n3_; have GW108 := n4_; have GE108 := n5_; clear n0_ n1_ n2_ n3_ n4_ n5_; clear hb hbox hg; have hcz19_0 : w18.cell? ⟨gb108, 0, none⟩ = some (.int .u8 a1_0) := (blk_cell BK108.out 0).trans rfl; have hcz19_1 : w18.cell? ⟨gb108, 1, none⟩ = some (.int .i64 a1_1) := (blk_cell BK108.out 1).trans rfl; have hcz19_2 : w18.cell? ⟨gb108, 2, none⟩ = some (.string a1_2) := (blk_cell BK108.out 2).trans rfl; have hfz19_0 := blk_frozen BK108.out 0; have hfz19_1 := blk_frozen BK108.out 1; have hfz19_2 := blk_frozen BK108.out 2) | ((with_reducible refine gate_builtin (b := .append) (xs := #[.tmp 6, .tmp 9]) rfl ?_); at_builtin; refine Kd.R_append (Kd.int .u8) (w0 := w0) w0.heap.size rfl (.tmp 6) (.tmp 9) 49 5 (.int .u8 0) 1 rfl Try.underlying49 info5 rfl (by decide) (by omega) u9000_ l0 a1_0 [.int .u8 a1_0] (fun k_ => (P0_ k_ ∨ w.heap.size ≤ k_)) (fun _ => False) rfl rfl ?aP (fun _ hk => hk.elim) ?aF ?aO ?aB ?aS ?aL ?_; (case aP => exact rfl); (case aB => exact (by repeat (first | (with_reducible first | exact HB.out | apply below_alloc | apply pw_below_drewN | apply below_drew1 | refine below_set ?_ GE108.out) | exact HB.out))); (case aF => exact (fun k_ hk => (.inr (Nat.le_trans (by first | exact HK.out.1 | exact (show Kept w _ (fun k_ => P0_ k_) from by repeat (first | (with_reducible first | exact HK.out | apply Kept.alloc | apply Kept.drewN | apply Kept.drew | refine Kept.setCell ?_ (.inr GW108.out) _) | exact HK.out)).1) hk)))); (case aO => exact (by (with_reducible repeat (first | apply Kd.R_alloc | apply Kd.R_drewN | apply Kd.R_drew)); exact HO0.out)); (case aS => exact (below_size (by repeat (first | (with_reducible first | exact HB.out | apply below_alloc | apply pw_below_drewN | apply below_drew1 | refine below_set ?_ GE108.out) | exact HB.out)))); (case aL => have := LMc3.out; omega); intro v110 w20 ho hb hg hat; rw [← Ny109.out] at ho; have n0_ := Aside0.mk (blk_grown (g := gb108) (o := .cells #[.int .u8 a1_0, .int .i64 a1_1, .string a1_2] 36 (0, 0)) (by (with_reducible repeat (first | refine blk_drewN ?_ _ | refine blk_drew ?_ | refine blk_alloc ?_ _)); exact BK108.out) hg (Kd.R_ne HO0.out BK108.out (by decide))); have n1_ := Aside0.mk (hb); have n2_ := Aside0.mk (Kept.of_grown (S := (fun k_ => P0_ k_)) hg (by repeat (first | (with_reducible first | exact HK.out | apply Kept.alloc | apply Kept.drewN | apply Kept.drew | refine Kept.setCell ?_ (.inr GW108.out) _) | exact HK.out)) (fun k_ e_ => (HO0.out.1 k_ e_))); have n3_ := Aside0.mk (ho); clear BK108; clear HB; clear HK; clear HO0; have BK108 := n0_; have HB := n1_; have HK := n2_; have HO111 := n3_; clear n0_ n1_ n2_ n3_; clear ho hb hg hat; have hcz21_0 : w20.cell? ⟨gb108, 0, none⟩ = some (.int .u8 a1_0) := (blk_cell BK108.out 0).trans rfl; have hcz21_1 : w20.cell? ⟨gb108, 1, none⟩ = some (.int .i64 a1_1) := (blk_cell BK108.out 1).trans rfl; have hcz21_2 : w20.cell? ⟨gb108, 2, none⟩ = some (.string a1_2) := (blk_cell BK108.out 2).trans rfl; have hfz21_0 := blk_frozen BK108.out 0; have hfz21_1 := blk_frozen BK108.out 1; have hfz21_2 := blk_frozen BK108.out 2) | ((with_reducible refine gate_builtin (b := .append) (xs := #[.tmp 31, .tmp 35]) rfl ?_); at_builtin; refine Kd.R_append (Kd.int .u8) (w0 := w0) w0.heap.size rfl (.tmp 31) (.tmp 35) 49 5 (.int .u8 0) 1 rfl Try.underlying49 info5 rfl (by decide) (by omega) v110 y109 ((a1_1) % 256) [.int .u8 ((a1_1) % 256)] (fun k_ => (P0_ k_ ∨ w.heap.size ≤ k_)) (fun _ => False) rfl rfl ?aP (fun _ hk => hk.elim) ?aF ?aO ?aB ?aS ?aL ?_; (case aP => exact rfl); (case aB => exact (by repeat (first | (with_reducible first | exact HB.out | apply below_alloc | apply pw_below_drewN | apply below_drew1 | refine below_set ?_ GE108.out) | exact HB.out))); (case aF => exact (fun k_ hk => (.inr (Nat.le_trans (by first | exact HK.out.1 | exact (show Kept w _ (fun k_ => P0_ k_) from by repeat (first | (with_reducible first | exact HK.out | apply Kept.alloc | apply Kept.drewN | apply Kept.drew | refine Kept.setCell ?_ (.inr GW108.out) _) | exact HK.out)).1) hk)))); (case aO => exact (by (with_reducible repeat (first | apply Kd.R_alloc | apply Kd.R_drewN | apply Kd.R_drew)); exact HO111.out)); (case aS => exact (below_size (by repeat (first | (with_reducible first | exact HB.out | apply below_alloc | apply pw_below_drewN | apply below_drew1 | refine below_set ?_ GE108.out) | exact HB.out)))); (case aL => have := LMc17.out; omega); intro v116 w22 ho hb hg hat; rw [← Ny115.out] at ho; have n0_ := Aside0.mk (blk_grown (g := gb108) (o := .cells #[.int .u8 a1_0, .int .i64 a1_1, .string a1_2] 36 (0, 0)) (by (with_reducible repeat (first | refine blk_drewN ?_ _ | refine blk_drew ?_ | refine blk_alloc ?_ _)); exact BK108.out) hg (Kd.R_ne HO111.out BK108.out (by decide))); have n1_ := Aside0.mk (hb); have n2_ := Aside0.mk (Kept.of_grown (S := (fun k_ => P0_ k_)) hg (by repeat (first | (with_reducible first | exact HK.out | apply Kept.alloc | apply Kept.drewN | apply Kept.drew | refine Kept.setCell ?_ (.inr GW108.out) _) | exact HK.out)) (fun k_ e_ => (HO111.out.1 k_ e_))); have n3_ := Aside0.mk (ho); clear BK108; clear HB; clear HK; clear HO111; have BK108 := n0_; have HB := n1_; have HK := n2_; have HO117 := n3_; clear n0_ n1_ n2_ n3_; clear ho hb hg hat))
          go_ret
          exact ⟨_, by first | rfl | (simp [errW_none, errW_some] <;> rfl) | (simp [*, errW_none, errW_some] <;> rfl), by (with_reducible repeat (first | apply Kd.R_alloc | apply Kd.R_drewN | apply Kd.R_drew)); exact HO117.out, by repeat (first | (with_reducible first | exact HB.out | apply below_alloc | apply pw_below_drewN | apply below_drew1 | refine below_set ?_ GE108.out) | exact HB.out), by repeat (first | (with_reducible first | exact HK.out | apply Kept.alloc | apply Kept.drewN | apply Kept.drew | refine Kept.setCell ?_ (.inr GW108.out) _) | exact HK.out)⟩
        · rw [if_neg c17] at H
          exact absurd H (by simp)
      · rw [if_neg c16] at H
        have c16b0 : (a1_0 == 2) = false := beq_eq_false_iff_ne.mpr c16
        have c16b1 : (a1_0 != 2) = true := bne_iff_ne.mpr c16
        by_cases c23 : a1_0 = 3
        · rw [if_pos c23] at H
          have c23b0 : (a1_0 == 3) = true := beq_iff_eq.mpr c23
          have c23b1 : (a1_0 != 3) = false := bne_eq_false_iff_eq.mpr c23
          clear c23
          by_cases c24 : y109.length < 140737488355328
          · rw [if_pos c24] at H
            have LMc24 := Aside0.mk c24
            clear c24
            obtain ⟨y118, hy118⟩ : ∃ y_ : List Int, y_ = (y109 ++ [((a1_2.size : Int)) % 256]) := ⟨_, rfl⟩
            replace H : (if y118.length + a1_2.size < 140737488355328 then (some (y118 ++ bytesOf a1_2)) else (none)) = some r := by first | (rw [hy118]; with_reducible exact H) | (have H2_ := (Option.bind_some _ _).symm.trans H; rw [hy118]; with_reducible exact H2_) | (have H2_ := (Option.bind_some _ _).symm.trans H; with_reducible exact H2_) | with_reducible exact H | (rw [hy118]; exact H) | exact H
            have Ny118 := Aside0.mk hy118
            clear hy118
            by_cases c25 : y118.length + a1_2.size < 140737488355328
            · rw [if_pos c25] at H
              have LMc25 := Aside0.mk c25
              clear c25
              obtain ⟨y121, hy121⟩ : ∃ y_ : List Int, y_ = (y118 ++ bytesOf a1_2) := ⟨_, rfl⟩
              replace H : (some y121) = some r := by first | (rw [hy121]; with_reducible exact H) | (have H2_ := (Option.bind_some _ _).symm.trans H; rw [hy121]; with_reducible exact H2_) | (have H2_ := (Option.bind_some _ _).symm.trans H; with_reducible exact H2_) | with_reducible exact H | (rw [hy121]; exact H) | exact H
              have Ny121 := Aside0.mk hy121
              clear hy121
              obtain rfl := Option.some.inj H
              go_enter Try.func47, Try.ntmps47
              go_wp2_with (first | ((with_reducible refine gate_dst (N := 3) rfl ?_); refine box_event ?hg (N := 3) ?hd (cs := #[.int .u8 a1_0, .int .i64 a1_1, .string a1_2]) (t := 36) ?hr ?_; (case hd => rfl); (case hg => rfl); (case hr => first | (go_simp; done) | (go_simp; rfl)); intro gb108 hg w26 hbox hb; have n0_ := Aside0.mk (Kd.R_below (by (with_reducible repeat (first | apply Kd.R_alloc | apply Kd.R_drewN | apply Kd.R_drew)); exact HO0.out) hb); have n1_ := Aside0.mk (Kept.below (S := (fun k_ => P0_ k_)) (by repeat (first | (with_reducible first | exact HK.out | apply Kept.alloc | apply Kept.drewN | apply Kept.drew) | exact HK.out)) hb); have n2_ := Aside0.mk (below_step (by repeat (first | (with_reducible first | exact HB.out | apply below_alloc | apply pw_below_drewN | apply below_drew1) | exact HB.out)) hb); have n3_ := Aside0.mk (hbox); have n4_ := Aside0.mk ((by rw [hg]; exact (by first | exact HK.out.1 | exact (show Kept w _ (fun k_ => P0_ k_) from by repeat (first | (with_reducible first | exact HK.out | apply Kept.alloc | apply Kept.drewN | apply Kept.drew) | exact HK.out)).1) : w.heap.size ≤ gb108)); have n5_ := Aside0.mk ((by rw [hg]; exact (below_size (by repeat (first | (with_reducible first | exact HB.out | apply below_alloc | apply pw_below_drewN | apply below_drew1) | exact HB.out))) : w0.heap.size ≤ gb108)); clear HO0; clear HK; clear HB; have HO0 := n0_; have HK := n1_; have HB := n2_; have BK108 := n3_; have GW108 := n4_; have GE108 := n5_; clear n0_ n1_ n2_ n3_ n4_ n5_; clear hb hbox hg; have hcz27_0 : w26.cell? ⟨gb108, 0, none⟩ = some (.int .u8 a1_0) := (blk_cell BK108.out 0).trans rfl; have hcz27_1 : w26.cell? ⟨gb108, 1, none⟩ = some (.int .i64 a1_1) := (blk_cell BK108.out 1).trans rfl; have hcz27_2 : w26.cell? ⟨gb108, 2, none⟩ = some (.string a1_2) := (blk_cell BK108.out 2).trans rfl; have hfz27_0 := blk_frozen BK108.out 0; have hfz27_1 := blk_frozen BK108.out 1; have hfz27_2 := blk_frozen BK108.out 2) | ((with_reducible refine gate_builtin (b := .append) (xs := #[.tmp 6, .tmp 9]) rfl ?_); at_builtin; refine Kd.R_append (Kd.int .u8) (w0 := w0) w0.heap.size rfl (.tmp 6) (.tmp 9) 49 5 (.int .u8 0) 1 rfl Try.underlying49 info5 rfl (by decide) (by omega) u9000_ l0 a1_0 [.int .u8 a1_0] (fun k_ => (P0_ k_ ∨ w.heap.size ≤ k_)) (fun _ => False) rfl rfl ?aP (fun _ hk => hk.elim) ?aF ?aO ?aB ?aS ?aL ?_; (case aP => exact rfl); (case aB => exact (by repeat (first | (with_reducible first | exact HB.out | apply below_alloc | apply pw_below_drewN | apply below_drew1 | refine below_set ?_ GE108.out) | exact HB.out))); (case aF => exact (fun k_ hk => (.inr (Nat.le_trans (by first | exact HK.out.1 | exact (show Kept w _ (fun k_ => P0_ k_) from by repeat (first | (with_reducible first | exact HK.out | apply Kept.alloc | apply Kept.drewN | apply Kept.drew | refine Kept.setCell ?_ (.inr GW108.out) _) | exact HK.out)).1) hk)))); (case aO => exact (by (with_reducible repeat (first | apply Kd.R_alloc | apply Kd.R_drewN | apply Kd.R_drew)); exact HO0.out)); (case aS => exact (below_size (by repeat (first | (with_reducible first | exact HB.out | apply below_alloc | apply pw_below_drewN | apply below_drew1 | refine below_set ?_ GE108.out) | exact HB.out)))); (case aL => have := LMc3.out; omega); intro v110 w28 ho hb hg hat; rw [← Ny109.out] at ho; have n0_ := Aside0.mk (blk_grown (g := gb108) (o := .cells #[.int .u8 a1_0, .int .i64 a1_1, .string a1_2] 36 (0, 0)) (by (with_reducible repeat (first | refine blk_drewN ?_ _ | refine blk_drew ?_ | refine blk_alloc ?_ _)); exact BK108.out) hg (Kd.R_ne HO0.out BK108.out (by decide))); have n1_ := Aside0.mk (hb); have n2_ := Aside0.mk (Kept.of_grown (S := (fun k_ => P0_ k_)) hg (by repeat (first | (with_reducible first | exact HK.out | apply Kept.alloc | apply Kept.drewN | apply Kept.drew | refine Kept.setCell ?_ (.inr GW108.out) _) | exact HK.out)) (fun k_ e_ => (HO0.out.1 k_ e_))); have n3_ := Aside0.mk (ho); clear BK108; clear HB; clear HK; clear HO0; have BK108 := n0_; have HB := n1_; have HK := n2_; have HO111 := n3_; clear n0_ n1_ n2_ n3_; clear ho hb hg hat; have hcz29_0 : w28.cell? ⟨gb108, 0, none⟩ = some (.int .u8 a1_0) := (blk_cell BK108.out 0).trans rfl; have hcz29_1 : w28.cell? ⟨gb108, 1, none⟩ = some (.int .i64 a1_1) := (blk_cell BK108.out 1).trans rfl; have hcz29_2 : w28.cell? ⟨gb108, 2, none⟩ = some (.string a1_2) := (blk_cell BK108.out 2).trans rfl; have hfz29_0 := blk_frozen BK108.out 0; have hfz29_1 := blk_frozen BK108.out 1; have hfz29_2 := blk_frozen BK108.out 2) | ((with_reducible refine gate_builtin (b := .append) (xs := #[.tmp 39, .tmp 44]) rfl ?_); at_builtin; refine Kd.R_append (Kd.int .u8) (w0 := w0) w0.heap.size rfl (.tmp 39) (.tmp 44) 49 5 (.int .u8 0) 1 rfl Try.underlying49 info5 rfl (by decide) (by omega) v110 y109 (((a1_2.size : Int)) % 256) [.int .u8 (((a1_2.size : Int)) % 256)] (fun k_ => (P0_ k_ ∨ w.heap.size ≤ k_)) (fun _ => False) rfl rfl ?aP (fun _ hk => hk.elim) ?aF ?aO ?aB ?aS ?aL ?_; (case aP => exact rfl); (case aB => exact (by repeat (first | (with_reducible first | exact HB.out | apply below_alloc | apply pw_below_drewN | apply below_drew1 | refine below_set ?_ GE108.out) | exact HB.out))); (case aF => exact (fun k_ hk => (.inr (Nat.le_trans (by first | exact HK.out.1 | exact (show Kept w _ (fun k_ => P0_ k_) from by repeat (first | (with_reducible first | exact HK.out | apply Kept.alloc | apply Kept.drewN | apply Kept.drew | refine Kept.setCell ?_ (.inr GW108.out) _) | exact HK.out)).1) hk)))); (case aO => exact (by (with_reducible repeat (first | apply Kd.R_alloc | apply Kd.R_drewN | apply Kd.R_drew)); exact HO111.out)); (case aS => exact (below_size (by repeat (first | (with_reducible first | exact HB.out | apply below_alloc | apply pw_below_drewN | apply below_drew1 | refine below_set ?_ GE108.out) | exact HB.out)))); (case aL => have := LMc24.out; omega); intro v119 w30 ho hb hg hat; rw [← Ny118.out] at ho; have n0_ := Aside0.mk (blk_grown (g := gb108) (o := .cells #[.int .u8 a1_0, .int .i64 a1_1, .string a1_2] 36 (0, 0)) (by (with_reducible repeat (first | refine blk_drewN ?_ _ | refine blk_drew ?_ | refine blk_alloc ?_ _)); exact BK108.out) hg (Kd.R_ne HO111.out BK108.out (by decide))); have n1_ := Aside0.mk (hb); have n2_ := Aside0.mk (Kept.of_grown (S := (fun k_ => P0_ k_)) hg (by repeat (first | (with_reducible first | exact HK.out | apply Kept.alloc | apply Kept.drewN | apply Kept.drew | refine Kept.setCell ?_ (.inr GW108.out) _) | exact HK.out)) (fun k_ e_ => (HO111.out.1 k_ e_))); have n3_ := Aside0.mk (ho); clear BK108; clear HB; clear HK; clear HO111; have BK108 := n0_; have HB := n1_; have HK := n2_; have HO120 := n3_; clear n0_ n1_ n2_ n3_; clear ho hb hg hat; have hcz31_0 : w30.cell? ⟨gb108, 0, none⟩ = some (.int .u8 a1_0) := (blk_cell BK108.out 0).trans rfl; have hcz31_1 : w30.cell? ⟨gb108, 1, none⟩ = some (.int .i64 a1_1) := (blk_cell BK108.out 1).trans rfl; have hcz31_2 : w30.cell? ⟨gb108, 2, none⟩ = some (.string a1_2) := (blk_cell BK108.out 2).trans rfl; have hfz31_0 := blk_frozen BK108.out 0; have hfz31_1 := blk_frozen BK108.out 1; have hfz31_2 := blk_frozen BK108.out 2) | (at_builtin; refine R_append_strP (w0 := w0) w0.heap.size rfl (.tmp 46) _ 49 9 5 rfl Try.underlying49 Try.underlying9 info5 v119 y118 a1_2 (fun k_ => (P0_ k_ ∨ w.heap.size ≤ k_)) rfl rfl ?aF ?aO ?aB ?aS ?aL ?_; (case aB => exact (by repeat (first | (with_reducible first | exact HB.out | apply below_alloc | apply pw_below_drewN | apply below_drew1 | refine below_set ?_ GE108.out) | exact HB.out))); (case aF => exact (fun k_ hk => (.inr (Nat.le_trans (by first | exact HK.out.1 | exact (show Kept w _ (fun k_ => P0_ k_) from by repeat (first | (with_reducible first | exact HK.out | apply Kept.alloc | apply Kept.drewN | apply Kept.drew | refine Kept.setCell ?_ (.inr GW108.out) _) | exact HK.out)).1) hk)))); (case aO => exact (by (with_reducible repeat (first | apply Kd.R_alloc | apply Kd.R_drewN | apply Kd.R_drew)); exact HO120.out)); (case aS => exact (below_size (by repeat (first | (with_reducible first | exact HB.out | apply below_alloc | apply pw_below_drewN | apply below_drew1 | refine below_set ?_ GE108.out) | exact HB.out)))); (case aL => have := LMc25.out; omega); intro v122 w32 ho hb hg hat; rw [← Ny121.out] at ho; have n0_ := Aside0.mk (blk_grown (g := gb108) (o := .cells #[.int .u8 a1_0, .int .i64 a1_1, .string a1_2] 36 (0, 0)) (by (with_reducible repeat (first | refine blk_drewN ?_ _ | refine blk_drew ?_ | refine blk_alloc ?_ _)); exact BK108.out) hg (Kd.R_ne HO120.out BK108.out (by decide))); have n1_ := Aside0.mk (hb); have n2_ := Aside0.mk (Kept.of_grown (S := (fun k_ => P0_ k_)) hg (by repeat (first | (with_reducible first | exact HK.out | apply Kept.alloc | apply Kept.drewN | apply Kept.drew | refine Kept.setCell ?_ (.inr GW108.out) _) | exact HK.out)) (fun k_ e_ => (HO120.out.1 k_ e_))); have n3_ := Aside0.mk (ho); clear BK108; clear HB; clear HK; clear HO120; have BK108 := n0_; have HB := n1_; have HK := n2_; have HO123 := n3_; clear n0_ n1_ n2_ n3_; clear ho hb hg hat))
              go_ret
              exact ⟨_, by first | rfl | (simp [errW_none, errW_some] <;> rfl) | (simp [*, errW_none, errW_some] <;> rfl), by (with_reducible repeat (first | apply Kd.R_alloc | apply Kd.R_drewN | apply Kd.R_drew)); exact HO123.out, by repeat (first | (with_reducible first | exact HB.out | apply below_alloc | apply pw_below_drewN | apply below_drew1 | refine below_set ?_ GE108.out) | exact HB.out), by repeat (first | (with_reducible first | exact HK.out | apply Kept.alloc | apply Kept.drewN | apply Kept.drew | refine Kept.setCell ?_ (.inr GW108.out) _) | exact HK.out)⟩
            · rw [if_neg c25] at H
              exact absurd H (by simp)
          · rw [if_neg c24] at H
            exact absurd H (by simp)
        · rw [if_neg c23] at H
          have c23b0 : (a1_0 == 3) = false := beq_eq_false_iff_ne.mpr c23
          have c23b1 : (a1_0 != 3) = true := bne_iff_ne.mpr c23
          obtain rfl := Option.some.inj H
          go_enter Try.func47, Try.ntmps47
          go_wp2_with (first | ((with_reducible refine gate_dst (N := 3) rfl ?_); refine box_event ?hg (N := 3) ?hd (cs := #[.int .u8 a1_0, .int .i64 a1_1, .string a1_2]) (t := 36) ?hr ?_; (case hd => rfl); (case hg => rfl); (case hr => first | (go_simp; done) | (go_simp; rfl)); intro gb108 hg w33 hbox hb; have n0_ := Aside0.mk (Kd.R_below (by (with_reducible repeat (first | apply Kd.R_alloc | apply Kd.R_drewN | apply Kd.R_drew)); exact HO0.out) hb); have n1_ := Aside0.mk (Kept.below (S := (fun k_ => P0_ k_)) (by repeat (first | (with_reducible first | exact HK.out | apply Kept.alloc | apply Kept.drewN | apply Kept.drew) | exact HK.out)) hb); have n2_ := Aside0.mk (below_step (by repeat (first | (with_reducible first | exact HB.out | apply below_alloc | apply pw_below_drewN | apply below_drew1) | exact HB.out)) hb); have n3_ := Aside0.mk (hbox); have n4_ := Aside0.mk ((by rw [hg]; exact (by first | exact HK.out.1 | exact (show Kept w _ (fun k_ => P0_ k_) from by repeat (first | (with_reducible first | exact HK.out | apply Kept.alloc | apply Kept.drewN | apply Kept.drew) | exact HK.out)).1) : w.heap.size ≤ gb108)); have n5_ := Aside0.mk ((by rw [hg]; exact (below_size (by repeat (first | (with_reducible first | exact HB.out | apply below_alloc | apply pw_below_drewN | apply below_drew1) | exact HB.out))) : w0.heap.size ≤ gb108)); clear HO0; clear HK; clear HB; have HO0 := n0_; have HK := n1_; have HB := n2_; have BK108 := n3_; have GW108 := n4_; have GE108 := n5_; clear n0_ n1_ n2_ n3_ n4_ n5_; clear hb hbox hg; have hcz34_0 : w33.cell? ⟨gb108, 0, none⟩ = some (.int .u8 a1_0) := (blk_cell BK108.out 0).trans rfl; have hcz34_1 : w33.cell? ⟨gb108, 1, none⟩ = some (.int .i64 a1_1) := (blk_cell BK108.out 1).trans rfl; have hcz34_2 : w33.cell? ⟨gb108, 2, none⟩ = some (.string a1_2) := (blk_cell BK108.out 2).trans rfl; have hfz34_0 := blk_frozen BK108.out 0; have hfz34_1 := blk_frozen BK108.out 1; have hfz34_2 := blk_frozen BK108.out 2) | ((with_reducible refine gate_builtin (b := .append) (xs := #[.tmp 6, .tmp 9]) rfl ?_); at_builtin; refine Kd.R_append (Kd.int .u8) (w0 := w0) w0.heap.size rfl (.tmp 6) (.tmp 9) 49 5 (.int .u8 0) 1 rfl Try.underlying49 info5 rfl (by decide) (by omega) u9000_ l0 a1_0 [.int .u8 a1_0] (fun k_ => (P0_ k_ ∨ w.heap.size ≤ k_)) (fun _ => False) rfl rfl ?aP (fun _ hk => hk.elim) ?aF ?aO ?aB ?aS ?aL ?_; (case aP => exact rfl); (case aB => exact (by repeat (first | (with_reducible first | exact HB.out | apply below_alloc | apply pw_below_drewN | apply below_drew1 | refine below_set ?_ GE108.out) | exact HB.out))); (case aF => exact (fun k_ hk => (.inr (Nat.le_trans (by first | exact HK.out.1 | exact (show Kept w _ (fun k_ => P0_ k_) from by repeat (first | (with_reducible first | exact HK.out | apply Kept.alloc | apply Kept.drewN | apply Kept.drew | refine Kept.setCell ?_ (.inr GW108.out) _) | exact HK.out)).1) hk)))); (case aO => exact (by (with_reducible repeat (first | apply Kd.R_alloc | apply Kd.R_drewN | apply Kd.R_drew)); exact HO0.out)); (case aS => exact (below_size (by repeat (first | (with_reducible first | exact HB.out | apply below_alloc | apply pw_below_drewN | apply below_drew1 | refine below_set ?_ GE108.out) | exact HB.out)))); (case aL => have := LMc3.out; omega); intro v110 w35 ho hb hg hat; rw [← Ny109.out] at ho; have n0_ := Aside0.mk (blk_grown (g := gb108) (o := .cells #[.int .u8 a1_0, .int .i64 a1_1, .string a1_2] 36 (0, 0)) (by (with_reducible repeat (first | refine blk_drewN ?_ _ | refine blk_drew ?_ | refine blk_alloc ?_ _)); exact BK108.out) hg (Kd.R_ne HO0.out BK108.out (by decide))); have n1_ := Aside0.mk (hb); have n2_ := Aside0.mk (Kept.of_grown (S := (fun k_ => P0_ k_)) hg (by repeat (first | (with_reducible first | exact HK.out | apply Kept.alloc | apply Kept.drewN | apply Kept.drew | refine Kept.setCell ?_ (.inr GW108.out) _) | exact HK.out)) (fun k_ e_ => (HO0.out.1 k_ e_))); have n3_ := Aside0.mk (ho); clear BK108; clear HB; clear HK; clear HO0; have BK108 := n0_; have HB := n1_; have HK := n2_; have HO111 := n3_; clear n0_ n1_ n2_ n3_; clear ho hb hg hat; have hcz36_0 : w35.cell? ⟨gb108, 0, none⟩ = some (.int .u8 a1_0) := (blk_cell BK108.out 0).trans rfl; have hcz36_1 : w35.cell? ⟨gb108, 1, none⟩ = some (.int .i64 a1_1) := (blk_cell BK108.out 1).trans rfl; have hcz36_2 : w35.cell? ⟨gb108, 2, none⟩ = some (.string a1_2) := (blk_cell BK108.out 2).trans rfl; have hfz36_0 := blk_frozen BK108.out 0; have hfz36_1 := blk_frozen BK108.out 1; have hfz36_2 := blk_frozen BK108.out 2))
          go_ret
          exact ⟨_, by first | rfl | (simp [errW_none, errW_some] <;> rfl) | (simp [*, errW_none, errW_some] <;> rfl), by (with_reducible repeat (first | apply Kd.R_alloc | apply Kd.R_drewN | apply Kd.R_drew)); exact HO111.out, by repeat (first | (with_reducible first | exact HB.out | apply below_alloc | apply pw_below_drewN | apply below_drew1 | refine below_set ?_ GE108.out) | exact HB.out), by repeat (first | (with_reducible first | exact HK.out | apply Kept.alloc | apply Kept.drewN | apply Kept.drew | refine Kept.setCell ?_ (.inr GW108.out) _) | exact HK.out)⟩
  · rw [if_neg c3] at H
    exact absurd H (by simp)

/-! ### rowcode_Put: function 32 -/
def rowcode_Put.l0 : Nat → List Int → List (S36) → Int → Int → Option (List Int × Int)
  | 0, _, _, _, _ => none
  | k + 1, x5, x17, x18, x19 => if x19 < x18 then (if 0 ≤ x19 then (if x19 < (x17.length : Int) then ((rowcode_one.f k x5 ((rd_T36 x17 x19).f0) ((rd_T36 x17 x19).f1) ((rd_T36 x17 x19).f2)).bind fun t130 => (rowcode_Put.l0 k t130 x17 x18 (wrap64 (x19 + 1)))) else (none)) else (none)) else (some (x5, 0))
def rowcode_Put.f (k : Nat) (l0 : List (S36)) : Option (List Int × Int) := (rowcode_may.f k l0).bind fun t124 => (if t124 = 0 then (rowcode_Put.l0 k (([((l0.length : Int)) % 256] : List Int)) l0 (l0.length : Int) 0) else (some (([] : List Int), t124)))
theorem rowcode_Put.mono_l : ∀ k, (∀ y0 y1 y2 y3, LeO (rowcode_Put.l0 k y0 y1 y2 y3) (rowcode_Put.l0 (k + 1) y0 y1 y2 y3))
  | 0 => fun _ _ _ _ r h => by simp [rowcode_Put.l0] at h
  | k + 1 => by
    have ih0 := rowcode_Put.mono_l k
    · intro y0 y1 y2 y3
      unfold rowcode_Put.l0
      repeat' first
      | (with_reducible exact ih0 _ _ _ _)
      | (with_reducible exact rowcode_may.mono _ _)
      | (with_reducible exact rowcode_one.mono _ _ _ _ _)
      | (with_reducible exact LeO.refl _)
      | (with_reducible exact LeO.none _)
      | (with_reducible refine LeO.ite ?_ ?_)
      | (with_reducible refine LeO.bind ?_ (fun _ => ?_))
      | exact ih0 _ _ _ _
      | exact rowcode_may.mono _ _
      | exact rowcode_one.mono _ _ _ _ _
      | exact LeO.none _
      | refine LeO.ite ?_ ?_
      | refine LeO.bind ?_ (fun _ => ?_)
theorem rowcode_Put.mono : ∀ a0 k, LeO (rowcode_Put.f k a0) (rowcode_Put.f (k + 1) a0) := by
  intro a0 k
  have ih0 := rowcode_Put.mono_l k
  unfold rowcode_Put.f
  repeat' first
      | (with_reducible exact ih0 _ _ _ _)
      | (with_reducible exact rowcode_may.mono _ _)
      | (with_reducible exact rowcode_one.mono _ _ _ _ _)
      | (with_reducible exact LeO.refl _)
      | (with_reducible exact LeO.none _)
      | (with_reducible refine LeO.ite ?_ ?_)
      | (with_reducible refine LeO.bind ?_ (fun _ => ?_))
      | exact ih0 _ _ _ _
      | exact rowcode_may.mono _ _
      | exact rowcode_one.mono _ _ _ _ _
      | exact LeO.none _
      | refine LeO.ite ?_ ?_
      | refine LeO.bind ?_ (fun _ => ?_)
set_option maxHeartbeats 8000000 in
set_option maxRecDepth 100000 in
theorem rowcode_Put.calls (k : Nat) (A0 : Option Addr) (c0 : Nat) (l0 : List (S36)) (r1 : List Int) (r2 : Int) (w : World) (hr0 : Kd.C k36 w A0 l0.length l0) (hc0 : l0.length ≤ c0) (h : rowcode_Put.f k l0 = some (r1, r2)) :
    Calls Try.prog 32 #[.slice A0 l0.length c0] w fun e w' => ∃ v0_ : Value, e = .returned (.tuple #[v0_, .int .i64 r2]) ∧ Kd.R (Kd.int .u8) 5 w' w.heap.size (fun _ => True) v0_ r1 ∧ Below w.heap.size w w' := by
  have hu36 := Try.underlying36
  have HR0 := Aside0.mk hr0
  have HC0 := Aside0.mk hc0
  clear hr0 hc0
  have HB := Aside0.mk (Below.refl w.heap.size w)
  have H : ((rowcode_may.f k l0).bind fun t124 => (if t124 = 0 then (rowcode_Put.l0 k (([((l0.length : Int)) % 256] : List Int)) l0 (l0.length : Int) 0) else (some (([] : List Int), t124)))) = some (r1, r2) := h
  clear h
  replace H := Option.bind_eq_some_iff.mp H
  obtain ⟨t124, A20, H⟩ := H
  replace H : (if t124 = 0 then (rowcode_Put.l0 k (([((l0.length : Int)) % 256] : List Int)) l0 (l0.length : Int) 0) else (some (([] : List Int), t124))) = some (r1, r2) := H
  have A2 := Aside0.mk A20
  clear A20
  by_cases c3 : t124 = 0
  · rw [if_pos c3] at H
    have c3b0 : (t124 == 0) = true := beq_iff_eq.mpr c3
    have c3b1 : (t124 != 0) = false := bne_eq_false_iff_eq.mpr c3
    clear c3
    obtain ⟨y125, hy125⟩ : ∃ y_ : List Int, y_ = (([((l0.length : Int)) % 256] : List Int)) := ⟨_, rfl⟩
    replace H : (rowcode_Put.l0 k y125 l0 (l0.length : Int) 0) = some (r1, r2) := by first | (rw [hy125]; with_reducible exact H) | (have H2_ := (Option.bind_some _ _).symm.trans H; rw [hy125]; with_reducible exact H2_) | (have H2_ := (Option.bind_some _ _).symm.trans H; with_reducible exact H2_) | with_reducible exact H | (rw [hy125]; exact H) | exact H
    have Ny125 := Aside0.mk hy125
    clear hy125
    have H' := Aside0.mk H
    clear H
    go_enter Try.func32, Try.ntmps32
    go_wp2_with (first | ((with_reducible refine gate_callee (f := 46) rfl ?_); refine goesL_ (some 9) rfl rfl Try.func46 (by kernel_rfl) rfl #[.slice A0 l0.length c0] rfl (by (try simp only [List.map_toArray, List.map_cons, List.map_nil]); first | done | rfl | (simp only [List.length_drop, List.length_take]; rfl)) ?_; (with_reducible refine (rowcode_may.calls k _ _ l0 t124 _ ?side1 ?side2 A2.out).mono ?_); (case side1 => repeat (first | exact HR0.out | (with_reducible refine Kd.C_alloc ?_ _) | (with_reducible refine Kd.C_drewN ?_ _) | (with_reducible refine Kd.C_drew ?_))); (case side2 => exact HC0.out); rintro e w4 ⟨rfl, hb⟩; refine ⟨_, rfl, ?_⟩; have n0_ := Aside0.mk (below_step (by repeat (first | (with_reducible first | exact HB.out | apply below_alloc | apply pw_below_drewN | apply below_drew1) | exact HB.out)) hb); clear HB; have HB := n0_; clear n0_; (try clear hb); (try clear hb2); (try clear hk); (try clear hi)) | ((with_reducible refine gate_dst (N := 16) rfl ?_); refine Kd.R_lit (Kd.int .u8) _ 5 ?hg (N := 16) ?hd (xs := ([((l0.length : Int)) % 256] : List Int)) (inner := [.int .u8 (((l0.length : Int)) % 256)]) (ok := fun _ => True) (okp := fun _ => True) ?hr ?hp (fun _ hk => hk) trivial (Below.refl _ _) (Nat.le_refl _) (by simp) ?_; (case hd => rfl); (case hg => rfl); (case hr => first | (go_simp; done) | (go_simp; rfl)); (case hp => exact (Reps.one (show Kd.M (Kd.int .u8) _ _ _ (((l0.length : Int)) % 256) [.int .u8 (((l0.length : Int)) % 256)] from rfl) (Reps.none _ _))); intro v126 w5 ho6 hb hg_ hnew_; clear hg_ hnew_; (first | rw [← Ny125.out] at ho6 | (simp only [Int.reduceToNat] at ho6; rw [← Ny125.out] at ho6)); have n0_ := Aside0.mk (Kd.R_lower ho6 (below_size (by repeat (first | (with_reducible first | exact HB.out | apply below_alloc | apply pw_below_drewN | apply below_drew1) | exact HB.out)))); have n1_ := Aside0.mk (below_step (by repeat (first | (with_reducible first | exact HB.out | apply below_alloc | apply pw_below_drewN | apply below_drew1) | exact HB.out)) hb); clear HB; have HO127 := n0_; have HB := n1_; clear n0_ n1_; clear hb ho6))
    go_loopg [5, 19] k (fun kq v5 v19 w' => ∃ (x5_1 : List Int) (x19_1 : Int), v19 = .int .i64 x19_1 ∧ Aside0 (rowcode_Put.l0 kq x5_1 l0 (l0.length : Int) x19_1 = some (r1, r2)) ∧ Aside0 (kq ≤ k) ∧ Aside0 (Kd.R (Kd.int .u8) 5 w' w.heap.size (fun _ => True) v5 x5_1) ∧ Aside0 (Below w.heap.size w w'))
    case atStart => exact ⟨(y125), (0), (by first | rfl | (simp; done) | (simp [*]; done)), H', ⟨Nat.le_refl _⟩, ⟨by (with_reducible repeat (first | apply Kd.R_alloc | apply Kd.R_drewN | apply Kd.R_drew)); exact HO127.out⟩, ⟨by repeat (first | (with_reducible first | exact HB.out | apply below_alloc | apply pw_below_drewN | apply below_drew1) | exact HB.out)⟩⟩
    case round =>
      clear H'
      try clear p2
      try clear c3
      try clear c3b0
      try clear c3b1
      try clear c4
      obtain ⟨x5_1, x19_1, rfl, HA, HK1, HO_5, HB⟩ := hrel
      cases gk with
      | zero => exact absurd HA.out (by simp [rowcode_Put.l0])
      | succ k1 =>
        have H := HA.out
        clear HA
        simp only [rowcode_Put.l0] at H
        by_cases c7 : x19_1 < (l0.length : Int)
        · rw [if_pos c7] at H
          have c7b0 : decide (x19_1 < (l0.length : Int)) = true := decide_eq_true c7
          clear c7
          by_cases c8 : 0 ≤ x19_1
          · rw [if_pos c8] at H
            have c8b0 : decide (0 ≤ x19_1) = true := decide_eq_true c8
            clear c8
            by_cases c9 : x19_1 < (l0.length : Int)
            · rw [if_pos c9] at H
              have c9b0 : decide (x19_1 < (l0.length : Int)) = true := decide_eq_true c9
              clear c9
              replace H := Option.bind_eq_some_iff.mp H
              obtain ⟨t130, A100, H⟩ := H
              replace H : (rowcode_Put.l0 k1 t130 l0 (l0.length : Int) (wrap64 (x19_1 + 1))) = some (r1, r2) := H
              have A10 := Aside0.mk A100
              clear A100
              have H' := Aside0.mk H
              clear H
              have p128 : 0 ≤ (x19_1 : Int) := of_decide_eq_true (by first | (with_reducible assumption) | assumption)
              have q128 : x19_1 < (l0.length : Int) := of_decide_eq_true (by first | (with_reducible assumption) | assumption)
              obtain ⟨ad128, e128, hx128_0, hx128_1, hx128_2⟩ := at_T36 HR0.out x19_1 p128 q128
              cases e128
              replace hx128_0 := (HB.out.cell (World.block_lt_of_cell? w _ hx128_0)).trans hx128_0
              replace hx128_1 := (HB.out.cell (World.block_lt_of_cell? w _ hx128_1)).trans hx128_1
              replace hx128_2 := (HB.out.cell (World.block_lt_of_cell? w _ hx128_2)).trans hx128_2
              replace p128 := eq_true p128
              replace q128 := eq_true q128
              go_wp2_with (first | ((with_reducible refine gate_dst (N := 7) rfl ?_); refine box_event ?hg (N := 7) ?hd (cs := #[.int .u8 0, .int .i64 0, .string (⟨#[]⟩ : ByteArray)]) (t := 36) ?hr ?_; (case hd => rfl); (case hg => rfl); (case hr => first | (go_simp; done) | (go_simp; rfl)); intro gb129 hg w11 hbox hb; have n0_ := Aside0.mk (Kd.R_below (by (with_reducible repeat (first | apply Kd.R_alloc | apply Kd.R_drewN | apply Kd.R_drew)); exact HO_5.out) hb); have n1_ := Aside0.mk (below_step (by repeat (first | (with_reducible first | exact HB.out | apply below_alloc | apply pw_below_drewN | apply below_drew1) | exact HB.out)) hb); have n2_ := Aside0.mk (hbox); have n3_ := Aside0.mk ((by rw [hg]; exact (below_size (by repeat (first | (with_reducible first | exact HB.out | apply below_alloc | apply pw_below_drewN | apply below_drew1) | exact HB.out))) : w.heap.size ≤ gb129)); have n4_ := Aside0.mk ((by rw [hg]; exact (below_size (by repeat (first | (with_reducible first | exact HB.out | apply below_alloc | apply pw_below_drewN | apply below_drew1) | exact HB.out))) : w.heap.size ≤ gb129)); clear HO_5; clear HB; have HO_5 := n0_; have HB := n1_; have BK129 := n2_; have GW129 := n3_; have GE129 := n4_; clear n0_ n1_ n2_ n3_ n4_; clear hb hbox hg; have hcz12_0 : w11.cell? ⟨gb129, 0, none⟩ = some (.int .u8 0) := (blk_cell BK129.out 0).trans rfl; have hcz12_1 : w11.cell? ⟨gb129, 1, none⟩ = some (.int .i64 0) := (blk_cell BK129.out 1).trans rfl; have hcz12_2 : w11.cell? ⟨gb129, 2, none⟩ = some (.string (⟨#[]⟩ : ByteArray)) := (blk_cell BK129.out 2).trans rfl; have hfz12_0 := blk_frozen BK129.out 0; have hfz12_1 := blk_frozen BK129.out 1; have hfz12_2 := blk_frozen BK129.out 2) | ((with_reducible refine gate_store (t := 36) (p := 7) rfl ?_); refine store_event (t := 36) (p := 7) (v := ?vo_w13) (w1 := (((w11.setCell ⟨gb129, 0, none⟩ (.int .u8 ((rd_T36 l0 x19_1).f0))).setCell ⟨gb129, 1, none⟩ (.int .i64 ((rd_T36 l0 x19_1).f1))).setCell ⟨gb129, 2, none⟩ (.string ((rd_T36 l0 x19_1).f2)))) ?hg ?ho ?hn ?hr ?_; (case ho => rfl); (case hg => rfl); (case hn => rfl); (case hr => first | (go_simp; done) | (go_simp; rfl)); intro w13 hw; have n0_ : Aside0 (Kd.R (Kd.int .u8) 5 w13 w.heap.size (fun _ => True) u5 x5_1) := ⟨(by rw [hw]; exact (by (with_reducible repeat (first | apply Kd.R_alloc | apply Kd.R_drewN | apply Kd.R_drew)); exact Kd.R_mono (Kd.R_far (p := ⟨gb129, 2, none⟩) (Kd.R_far (p := ⟨gb129, 1, none⟩) (Kd.R_far (p := ⟨gb129, 0, none⟩) (Kd.R_types HO_5.out BK129.out (by decide)) (fun _ hk => hk.2) (.int .u8 ((rd_T36 l0 x19_1).f0))) (fun _ hk => hk.2) (.int .i64 ((rd_T36 l0 x19_1).f1))) (fun _ hk => hk.2) (.string ((rd_T36 l0 x19_1).f2))) (fun _ hk => trivial)))⟩; have n1_ : Aside0 (w13.heap[gb129]? = some (.cells #[.int .u8 ((rd_T36 l0 x19_1).f0), .int .i64 ((rd_T36 l0 x19_1).f1), .string ((rd_T36 l0 x19_1).f2)] 36 (0, 0))) := ⟨(by rw [hw]; exact (by (with_reducible repeat (first | refine blk_drewN ?_ _ | refine blk_drew ?_ | refine blk_alloc ?_ _)); refine blk_put (cs := #[.int .u8 ((rd_T36 l0 x19_1).f0), .int .i64 ((rd_T36 l0 x19_1).f1), .string (⟨#[]⟩ : ByteArray)]) ?_ 2 _ rfl; (with_reducible repeat (first | refine blk_drewN ?_ _ | refine blk_drew ?_ | refine blk_alloc ?_ _)); refine blk_put (cs := #[.int .u8 ((rd_T36 l0 x19_1).f0), .int .i64 0, .string (⟨#[]⟩ : ByteArray)]) ?_ 1 _ rfl; (with_reducible repeat (first | refine blk_drewN ?_ _ | refine blk_drew ?_ | refine blk_alloc ?_ _)); refine blk_put (cs := #[.int .u8 0, .int .i64 0, .string (⟨#[]⟩ : ByteArray)]) ?_ 0 _ rfl; (with_reducible repeat (first | refine blk_drewN ?_ _ | refine blk_drew ?_ | refine blk_alloc ?_ _)); exact BK129.out))⟩; have n2_ : Aside0 (Below w.heap.size w w13) := ⟨(by rw [hw]; exact (by repeat (first | (with_reducible first | exact HB.out | apply below_alloc | apply pw_below_drewN | apply below_drew1 | refine below_set ?_ GE129.out) | exact HB.out)))⟩; clear hw; clear HO_5; clear BK129; clear HB; have HO_5 := n0_; have BK129 := n1_; have HB := n2_; clear n0_ n1_ n2_; have hcz14_0 : w13.cell? ⟨gb129, 0, none⟩ = some (.int .u8 ((rd_T36 l0 x19_1).f0)) := (blk_cell BK129.out 0).trans rfl; have hcz14_1 : w13.cell? ⟨gb129, 1, none⟩ = some (.int .i64 ((rd_T36 l0 x19_1).f1)) := (blk_cell BK129.out 1).trans rfl; have hcz14_2 : w13.cell? ⟨gb129, 2, none⟩ = some (.string ((rd_T36 l0 x19_1).f2)) := (blk_cell BK129.out 2).trans rfl; have hfz14_0 := blk_frozen BK129.out 0; have hfz14_1 := blk_frozen BK129.out 1; have hfz14_2 := blk_frozen BK129.out 2; obtain ⟨Ao15, co15, eo15⟩ := Kd.R_slice HO_5.out; subst eo15) | ((with_reducible refine gate_callee (f := 47) rfl ?_); refine goesL_ (some 25) rfl rfl Try.func47 (by kernel_rfl) rfl #[.slice Ao15 x5_1.length co15, .agg #[.int .u8 ((rd_T36 l0 x19_1).f0), .int .i64 ((rd_T36 l0 x19_1).f1), .string ((rd_T36 l0 x19_1).f2)]] rfl (by (try simp only [List.map_toArray, List.map_cons, List.map_nil]); first | done | rfl | (simp only [List.length_drop, List.length_take]; rfl)) ?_; (with_reducible refine (rowcode_one.calls k1 (fun k_ => some k_ = (.slice Ao15 x5_1.length co15 : Value).ownBlock) (.slice Ao15 x5_1.length co15) x5_1 ((rd_T36 l0 x19_1).f0) ((rd_T36 l0 x19_1).f1) ((rd_T36 l0 x19_1).f2) t130 w _ ?side1 ?side2 A10.out).mono ?_); (case side1 => repeat (first | (with_reducible first | exact HB.out | apply below_alloc | apply pw_below_drewN | apply below_drew1 | refine below_set ?_ GE129.out) | exact HB.out)); (case side2 => exact Kd.R_tight rfl HO_5.out); rintro e w16 ⟨v131, rfl, ho0, hb, hkp⟩; refine ⟨_, rfl, ?_⟩; have n0_ := Aside0.mk (blk_kept (by (with_reducible repeat (first | refine blk_drewN ?_ _ | refine blk_drew ?_ | refine blk_alloc ?_ _)); exact BK129.out) hkp (fun hs_ => (fun e_ => (Kd.R_ne HO_5.out BK129.out (by decide)) e_) hs_)); have n1_ := Aside0.mk (Kd.R_mono (ok' := fun k_ => True) ho0 (fun k_ hk_ => trivial)); have n2_ := Aside0.mk (hb); clear BK129; clear HB; clear HO_5; have BK129 := n0_; have HO132 := n1_; have HB := n2_; clear n0_ n1_ n2_; (try clear hb); (try clear hkp); (try clear ho0)))
              go_roundg k1
              case measure => have := HK1.out; omega
              case rel => exact ⟨(t130), (wrap64 (x19_1 + 1)), (by first | rfl | (simp; done) | (simp [*]; done)), H', ⟨by have := HK1.out; omega⟩, ⟨by (with_reducible repeat (first | apply Kd.R_alloc | apply Kd.R_drewN | apply Kd.R_drew)); exact HO132.out⟩, ⟨by repeat (first | (with_reducible first | exact HB.out | apply below_alloc | apply pw_below_drewN | apply below_drew1 | refine below_set ?_ GE129.out) | exact HB.out)⟩⟩
            · rw [if_neg c9] at H
              exact absurd H (by simp)
          · rw [if_neg c8] at H
            exact absurd H (by simp)
        · rw [if_neg c7] at H
          have c7b0 : decide (x19_1 < (l0.length : Int)) = false := decide_eq_false c7
          clear c7
          simp only [Option.some.injEq, Prod.mk.injEq] at H
          obtain ⟨rfl, rfl⟩ := H
          go_wp2
          go_ret2
          exact ⟨_, by first | rfl | (simp [errW_none, errW_some] <;> rfl) | (simp [*, errW_none, errW_some] <;> rfl), by (with_reducible repeat (first | apply Kd.R_alloc | apply Kd.R_drewN | apply Kd.R_drew)); exact HO_5.out, by repeat (first | (with_reducible first | exact HB.out | apply below_alloc | apply pw_below_drewN | apply below_drew1) | exact HB.out)⟩
  · rw [if_neg c3] at H
    have c3b0 : (t124 == 0) = false := beq_eq_false_iff_ne.mpr c3
    have c3b1 : (t124 != 0) = true := bne_iff_ne.mpr c3
    simp only [Option.some.injEq, Prod.mk.injEq] at H
    obtain ⟨rfl, rfl⟩ := H
    go_enter Try.func32, Try.ntmps32
    go_wp2_with (first | ((with_reducible refine gate_callee (f := 46) rfl ?_); refine goesL_ (some 9) rfl rfl Try.func46 (by kernel_rfl) rfl #[.slice A0 l0.length c0] rfl (by (try simp only [List.map_toArray, List.map_cons, List.map_nil]); first | done | rfl | (simp only [List.length_drop, List.length_take]; rfl)) ?_; (with_reducible refine (rowcode_may.calls k _ _ l0 t124 _ ?side1 ?side2 A2.out).mono ?_); (case side1 => repeat (first | exact HR0.out | (with_reducible refine Kd.C_alloc ?_ _) | (with_reducible refine Kd.C_drewN ?_ _) | (with_reducible refine Kd.C_drew ?_))); (case side2 => exact HC0.out); rintro e w17 ⟨rfl, hb⟩; refine ⟨_, rfl, ?_⟩; have n0_ := Aside0.mk (below_step (by repeat (first | (with_reducible first | exact HB.out | apply below_alloc | apply pw_below_drewN | apply below_drew1) | exact HB.out)) hb); clear HB; have HB := n0_; clear n0_; (try clear hb); (try clear hb2); (try clear hk); (try clear hi)))
    go_ret2
    exact ⟨_, by first | rfl | (simp [errW_none, errW_some] <;> rfl) | (simp [*, errW_none, errW_some] <;> rfl), by first | exact Kd.R_nil _ _ _ _ _ | exact Kd.N_nil _ _ _ _ _ | exact Kd.V_nil _ _ _ _ _ | exact Kd.Q_nil _ _ _ _ _ | exact Kd.S_nil _ _ _ _ _, by repeat (first | (with_reducible first | exact HB.out | apply below_alloc | apply pw_below_drewN | apply below_drew1) | exact HB.out)⟩

/-! ### rowlocklaw04_fixed: function 26 -/
def rowlocklaw04_fixed.f (k : Nat)  : Option (Bool) := (rowcode_Put.f k (([(⟨0, 0, (⟨#[]⟩ : ByteArray)⟩ : S36), (⟨3, 0, (⟨#[97]⟩ : ByteArray)⟩ : S36)] : List (S36)))).bind fun bt136 => (if bt136.2 = 0 then (some ((strOfNums bt136.1).toList == ([2, 0, 3, 1, 97] : List UInt8))) else (some false))
theorem rowlocklaw04_fixed.mono : ∀ k, LeO (rowlocklaw04_fixed.f k ) (rowlocklaw04_fixed.f (k + 1) ) := by
  intro  k
  unfold rowlocklaw04_fixed.f
  repeat' first
      | (with_reducible exact rowcode_Put.mono _ _)
      | (with_reducible exact LeO.refl _)
      | (with_reducible exact LeO.none _)
      | (with_reducible refine LeO.ite ?_ ?_)
      | (with_reducible refine LeO.bind ?_ (fun _ => ?_))
      | exact rowcode_Put.mono _ _
      | exact LeO.none _
      | refine LeO.ite ?_ ?_
      | refine LeO.bind ?_ (fun _ => ?_)
set_option maxHeartbeats 8000000 in
set_option maxRecDepth 100000 in
theorem rowlocklaw04_fixed.calls (k : Nat)  (r : Bool) (w : World) (h : rowlocklaw04_fixed.f k  = some r) :
    Calls Try.prog 26 #[] w fun e w' => e = .returned (.bool r) ∧ Below w.heap.size w w' := by
  have hu36 := Try.underlying36
  have HB := Aside0.mk (Below.refl w.heap.size w)
  have H : ((rowcode_Put.f k (([(⟨0, 0, (⟨#[]⟩ : ByteArray)⟩ : S36), (⟨3, 0, (⟨#[97]⟩ : ByteArray)⟩ : S36)] : List (S36)))).bind fun bt136 => (if bt136.2 = 0 then (some ((strOfNums bt136.1).toList == ([2, 0, 3, 1, 97] : List UInt8))) else (some false))) = some r := h
  clear h
  obtain ⟨y133, hy133⟩ : ∃ y_ : List (S36), y_ = (([(⟨0, 0, (⟨#[]⟩ : ByteArray)⟩ : S36), (⟨3, 0, (⟨#[97]⟩ : ByteArray)⟩ : S36)] : List (S36))) := ⟨_, rfl⟩
  replace H : ((rowcode_Put.f k y133).bind fun bt136 => (if bt136.2 = 0 then (some ((strOfNums bt136.1).toList == ([2, 0, 3, 1, 97] : List UInt8))) else (some false))) = some r := by first | (rw [hy133]; with_reducible exact H) | (have H2_ := (Option.bind_some _ _).symm.trans H; rw [hy133]; with_reducible exact H2_) | (have H2_ := (Option.bind_some _ _).symm.trans H; with_reducible exact H2_) | with_reducible exact H | (rw [hy133]; exact H) | exact H
  have Ny133 := Aside0.mk hy133
  clear hy133
  replace H := Option.bind_eq_some_iff.mp H
  obtain ⟨⟨t136, t137⟩, A10, H⟩ := H
  replace H : (if t137 = 0 then (some ((strOfNums t136).toList == ([2, 0, 3, 1, 97] : List UInt8))) else (some false)) = some r := H
  have A1 := Aside0.mk A10
  clear A10
  by_cases c2 : t137 = 0
  · rw [if_pos c2] at H
    have c2b0 : (t137 == 0) = true := beq_iff_eq.mpr c2
    have c2b1 : (t137 != 0) = false := bne_eq_false_iff_eq.mpr c2
    clear c2
    obtain rfl := Option.some.inj H
    go_enter Try.func26, Try.ntmps26
    go_wp2_with (first | ((with_reducible refine gate_dst (N := 6) rfl ?_); refine Kd.R_lit k36 _ 36 ?hg (N := 6) ?hd (xs := ([(⟨0, 0, (⟨#[]⟩ : ByteArray)⟩ : S36), (⟨3, 0, (⟨#[97]⟩ : ByteArray)⟩ : S36)] : List (S36))) (inner := [.int .u8 0, .int .i64 0, .string (⟨#[]⟩ : ByteArray), .int .u8 3, .int .i64 0, .string (⟨#[97]⟩ : ByteArray)]) (ok := fun _ => True) (okp := fun _ => True) ?hr ?hp (fun _ hk => hk) trivial (Below.refl _ _) (Nat.le_refl _) (by simp) ?_; (case hd => rfl); (case hg => rfl); (case hr => first | (go_simp; done) | (go_simp; rfl)); (case hp => exact (Reps.c3 (show Kd.M k36 _ _ _ (⟨0, 0, (⟨#[]⟩ : ByteArray)⟩ : S36) [.int .u8 0, .int .i64 0, .string (⟨#[]⟩ : ByteArray)] from (k36_mkM _ _ _ (⟨0, 0, (⟨#[]⟩ : ByteArray)⟩ : S36) )) (Reps.c3 (show Kd.M k36 _ _ _ (⟨3, 0, (⟨#[97]⟩ : ByteArray)⟩ : S36) [.int .u8 3, .int .i64 0, .string (⟨#[97]⟩ : ByteArray)] from (k36_mkM _ _ _ (⟨3, 0, (⟨#[97]⟩ : ByteArray)⟩ : S36) )) (Reps.none _ _)))); intro v134 w3 ho4 hb hg_ hnew_; clear hg_ hnew_; (first | rw [← Ny133.out] at ho4 | (simp only [Int.reduceToNat] at ho4; rw [← Ny133.out] at ho4)); have n0_ := Aside0.mk (Kd.R_lower ho4 (below_size (by repeat (first | (with_reducible first | exact HB.out | apply below_alloc | apply pw_below_drewN | apply below_drew1) | exact HB.out)))); have n1_ := Aside0.mk (below_step (by repeat (first | (with_reducible first | exact HB.out | apply below_alloc | apply pw_below_drewN | apply below_drew1) | exact HB.out)) hb); clear HB; have HO135 := n0_; have HB := n1_; clear n0_ n1_; clear hb ho4; obtain ⟨Ao5, co5, eo5⟩ := Kd.R_slice HO135.out; subst eo5) | ((with_reducible refine gate_callee (f := 32) rfl ?_); refine goesL_ (some 7) rfl rfl Try.func32 (by kernel_rfl) rfl #[.slice Ao5 y133.length co5] rfl (by (try simp only [List.map_toArray, List.map_cons, List.map_nil]); first | done | rfl | (simp only [List.length_drop, List.length_take]; rfl)) ?_; (with_reducible refine (rowcode_Put.calls k _ _ y133 t136 t137 _ ?side1 ?side2 A1.out).mono ?_); (case side1 => repeat (first | exact (Kd.R_reads' HO135.out).2.2 | (with_reducible refine Kd.C_alloc ?_ _) | (with_reducible refine Kd.C_drewN ?_ _) | (with_reducible refine Kd.C_drew ?_))); (case side2 => exact (Kd.R_reads' HO135.out).2.1); rintro e w6 ⟨v138, rfl, ho0, hb⟩; refine ⟨_, rfl, ?_⟩; have n0_ := Aside0.mk (Kd.R_below (by (with_reducible repeat (first | apply Kd.R_alloc | apply Kd.R_drewN | apply Kd.R_drew)); exact HO135.out) hb); have n1_ := Aside0.mk (Kd.R_lower ho0 (below_size (by repeat (first | (with_reducible first | exact HB.out | apply below_alloc | apply pw_below_drewN | apply below_drew1) | exact HB.out)))); have n2_ := Aside0.mk (below_step (by repeat (first | (with_reducible first | exact HB.out | apply below_alloc | apply pw_below_drewN | apply below_drew1) | exact HB.out)) hb); clear HO135; clear HB; have HO135 := n0_; have HO139 := n1_; have HB := n2_; clear n0_ n1_ n2_; (try clear hb); (try clear hb2); (try clear hk); (try clear hi); (try clear ho0); have hcv7 := own_string (P := Try.prog) Try.underlying49 Try.underlying5 Try.underlying9 (Kd.own_of_R HO139.out)))
    go_ret
    exact ⟨by first | rfl | (simp [errW_none, errW_some] <;> rfl) | (simp [*, errW_none, errW_some] <;> rfl), by repeat (first | (with_reducible first | exact HB.out | apply below_alloc | apply pw_below_drewN | apply below_drew1) | exact HB.out)⟩
  · rw [if_neg c2] at H
    have c2b0 : (t137 == 0) = false := beq_eq_false_iff_ne.mpr c2
    have c2b1 : (t137 != 0) = true := bne_iff_ne.mpr c2
    obtain rfl := Option.some.inj H
    go_enter Try.func26, Try.ntmps26
    go_wp2_with (first | ((with_reducible refine gate_dst (N := 6) rfl ?_); refine Kd.R_lit k36 _ 36 ?hg (N := 6) ?hd (xs := ([(⟨0, 0, (⟨#[]⟩ : ByteArray)⟩ : S36), (⟨3, 0, (⟨#[97]⟩ : ByteArray)⟩ : S36)] : List (S36))) (inner := [.int .u8 0, .int .i64 0, .string (⟨#[]⟩ : ByteArray), .int .u8 3, .int .i64 0, .string (⟨#[97]⟩ : ByteArray)]) (ok := fun _ => True) (okp := fun _ => True) ?hr ?hp (fun _ hk => hk) trivial (Below.refl _ _) (Nat.le_refl _) (by simp) ?_; (case hd => rfl); (case hg => rfl); (case hr => first | (go_simp; done) | (go_simp; rfl)); (case hp => exact (Reps.c3 (show Kd.M k36 _ _ _ (⟨0, 0, (⟨#[]⟩ : ByteArray)⟩ : S36) [.int .u8 0, .int .i64 0, .string (⟨#[]⟩ : ByteArray)] from (k36_mkM _ _ _ (⟨0, 0, (⟨#[]⟩ : ByteArray)⟩ : S36) )) (Reps.c3 (show Kd.M k36 _ _ _ (⟨3, 0, (⟨#[97]⟩ : ByteArray)⟩ : S36) [.int .u8 3, .int .i64 0, .string (⟨#[97]⟩ : ByteArray)] from (k36_mkM _ _ _ (⟨3, 0, (⟨#[97]⟩ : ByteArray)⟩ : S36) )) (Reps.none _ _)))); intro v134 w8 ho9 hb hg_ hnew_; clear hg_ hnew_; (first | rw [← Ny133.out] at ho9 | (simp only [Int.reduceToNat] at ho9; rw [← Ny133.out] at ho9)); have n0_ := Aside0.mk (Kd.R_lower ho9 (below_size (by repeat (first | (with_reducible first | exact HB.out | apply below_alloc | apply pw_below_drewN | apply below_drew1) | exact HB.out)))); have n1_ := Aside0.mk (below_step (by repeat (first | (with_reducible first | exact HB.out | apply below_alloc | apply pw_below_drewN | apply below_drew1) | exact HB.out)) hb); clear HB; have HO135 := n0_; have HB := n1_; clear n0_ n1_; clear hb ho9; obtain ⟨Ao10, co10, eo10⟩ := Kd.R_slice HO135.out; subst eo10) | ((with_reducible refine gate_callee (f := 32) rfl ?_); refine goesL_ (some 7) rfl rfl Try.func32 (by kernel_rfl) rfl #[.slice Ao10 y133.length co10] rfl (by (try simp only [List.map_toArray, List.map_cons, List.map_nil]); first | done | rfl | (simp only [List.length_drop, List.length_take]; rfl)) ?_; (with_reducible refine (rowcode_Put.calls k _ _ y133 t136 t137 _ ?side1 ?side2 A1.out).mono ?_); (case side1 => repeat (first | exact (Kd.R_reads' HO135.out).2.2 | (with_reducible refine Kd.C_alloc ?_ _) | (with_reducible refine Kd.C_drewN ?_ _) | (with_reducible refine Kd.C_drew ?_))); (case side2 => exact (Kd.R_reads' HO135.out).2.1); rintro e w11 ⟨v138, rfl, ho0, hb⟩; refine ⟨_, rfl, ?_⟩; have n0_ := Aside0.mk (Kd.R_below (by (with_reducible repeat (first | apply Kd.R_alloc | apply Kd.R_drewN | apply Kd.R_drew)); exact HO135.out) hb); have n1_ := Aside0.mk (Kd.R_lower ho0 (below_size (by repeat (first | (with_reducible first | exact HB.out | apply below_alloc | apply pw_below_drewN | apply below_drew1) | exact HB.out)))); have n2_ := Aside0.mk (below_step (by repeat (first | (with_reducible first | exact HB.out | apply below_alloc | apply pw_below_drewN | apply below_drew1) | exact HB.out)) hb); clear HO135; clear HB; have HO135 := n0_; have HO139 := n1_; have HB := n2_; clear n0_ n1_ n2_; (try clear hb); (try clear hb2); (try clear hk); (try clear hi); (try clear ho0)))
    go_ret
    exact ⟨by first | rfl | (simp [errW_none, errW_some] <;> rfl) | (simp [*, errW_none, errW_some] <;> rfl), by repeat (first | (with_reducible first | exact HB.out | apply below_alloc | apply pw_below_drewN | apply below_drew1) | exact HB.out)⟩

/-! ### rowcode_Get: function 29 -/
/-- The rows that are read: so many are to come. -/
def rowcode_Get.gl : Nat → List S36 → List Int → Int → List S36 × Int
  | 0, rows, xs, e => if (if 0 < xs.length then Rd.fl e 2 else e) = 0 then (rows, 0) else ([], if 0 < xs.length then Rd.fl e 2 else e)
  | n + 1, rows, xs, e => if (Rd.vl xs e).2.2 = 0 then rowcode_Get.gl n (rows ++ [(⟨(Rd.vl xs e).1.1, (Rd.vl xs e).1.2.1, (Rd.vl xs e).1.2.2⟩ : S36)]) (Rd.vl xs e).2.1 (Rd.vl xs e).2.2 else ([], (Rd.vl xs e).2.2)
def rowcode_Get.f (_k : Nat) (a0 : List Int) : Option (List (S36) × Int) :=
  if a0.length ≤ 1000000 ∧ (a0.all fun x => decide (0 ≤ x ∧ x ≤ 255)) = true then some (rowcode_Get.gl (rd (Rd.tk a0 0 1).1 0).toNat [] (Rd.tk a0 0 1).2.1 (Rd.tk a0 0 1).2.2) else none
theorem rowcode_Get.mono : ∀ a0 k, LeO (rowcode_Get.f k a0) (rowcode_Get.f (k + 1) a0) := fun _ _ => LeO.refl _
theorem grown_cur {w W w1 : World} {g : Nat} {xs : List Int} {e : Int} {v : Value} {rows : List S36} {base : Nat} {ok : Nat → Prop} (hI : Rd.Cur w W g xs e) (hO : Kd.R k36 36 W base ok v rows) (hg : W.grownBy w1 v.ownBlock) : Rd.Cur w w1 g xs e := by
  obtain ⟨A, c, hb⟩ := hI.blk
  exact hI.keep_ (hg.block g hI.lt (Kd.R_ne hO hb (by decide)))
set_option maxHeartbeats 8000000 in
set_option maxRecDepth 100000 in
theorem rowcode_Get.calls (k : Nat) (A0 : Option Addr) (c0 : Nat) (l0 : List Int) (r1 : List (S36)) (r2 : Int) (w : World) (hr0 : Kd.C (Kd.int .u8) w A0 l0.length l0) (hc0 : l0.length ≤ c0) (h : rowcode_Get.f k l0 = some (r1, r2)) :
    Calls Try.prog 29 #[.slice A0 l0.length c0] w fun e w' => ∃ v : Value, e = .returned (.tuple #[v, .int .i64 r2]) ∧ Kd.R k36 36 w' w.heap.size (fun _ => True) v r1 ∧ Below w.heap.size w w' := by
  unfold rowcode_Get.f at h
  split at h
  case isFalse => exact absurd h (by simp)
  case isTrue hg =>
  have hy : Rd.By l0 := fun x hx => by simpa using List.all_eq_true.mp hg.2 x hx
  have hl := hg.1
  obtain ⟨n, hn⟩ : ∃ n : Int, n = rd (Rd.tk l0 0 1).1 0 := ⟨_, rfl⟩
  obtain ⟨xs1, hxs1⟩ : ∃ y, y = (Rd.tk l0 0 1).2.1 := ⟨_, rfl⟩
  obtain ⟨e1, he1⟩ : ∃ y, y = (Rd.tk l0 0 1).2.2 := ⟨_, rfl⟩
  have hy1 : Rd.By xs1 := by rw [hxs1]; exact hy.tk2 _ _
  have hl1 : xs1.length ≤ 1000000 := by rw [hxs1]; exact Nat.le_trans (Rd.tk_le _ _ _) hl
  have hnr : 0 ≤ n ∧ n ≤ 255 := by rw [hn]; exact (hy.tk1 _ _).rdb 0
  rw [← hn, ← hxs1, ← he1] at h
  have HS := Aside0.mk (Option.some.inj h)
  have HY := Aside0.mk (And.intro hy hl)
  have HY1 := Aside0.mk (And.intro hy1 hl1)
  have HN := Aside0.mk hnr
  have HC := Aside0.mk (And.intro hr0 hc0)
  have HE := Aside0.mk (And.intro hn (And.intro hxs1 he1))
  have HB := Aside0.mk (Below.refl w.heap.size w)
  clear h hg hy hl hn hxs1 he1 hy1 hl1 hnr hr0 hc0
  go_enter Try.func29, Try.ntmps29
  go_wp2_with ((go_at_call 42; (with_reducible refine (Rd.take1 w _ w.heap.size l0 0 (Rd.Cur.mk (blk_new w _) HC.out.2 (Nat.le_refl _) HC.out.1) (below_alloc (Below.refl _ _) _) (by have := HY.out.2; omega)).mono ?_); rintro en w1 ⟨ad, c, rfl, hx, hI1, hB1, hK1⟩; rw [← HE.out.1] at hx; rw [← HE.out.2.1, ← HE.out.2.2] at hI1; have HI1 := Aside0.mk hI1; have HB1 := Aside0.mk hB1; clear hI1 hB1 hK1))
  go_loopg [5, 13] n.toNat (fun kq v5 v13 w' => ∃ (rows : List S36) (i : Int) (xs : List Int) (e : Int), v13 = .int .u8 i ∧ Aside0 (0 ≤ i ∧ (kq : Int) + i = n) ∧ Aside0 (rowcode_Get.gl kq rows xs e = (r1, r2)) ∧ Aside0 (Kd.R k36 36 w' w.heap.size (fun _ => True) v5 rows) ∧ Aside0 (Rd.Cur w w' w.heap.size xs e) ∧ Aside0 (Below w.heap.size w w') ∧ Aside0 (Rd.By xs ∧ xs.length ≤ 1000000) ∧ Aside0 ((rows.length : Int) = i))
  case atStart => exact ⟨[], 0, xs1, e1, rfl, ⟨by have := HN.out; omega⟩, HS, ⟨Kd.R_nil _ _ _ _ _⟩, HI1, HB1, HY1, ⟨rfl⟩⟩
  case round =>
    clear HS HY HY1 HC HE HB HI1 HB1 hx
    obtain ⟨rows, i, xs, e, rfl, HI_, HS, HO, HI, HB, HYL, HR⟩ := hrel
    obtain ⟨A, cc, hbk⟩ := HI.out.blk
    have hc0 := (blk_cell hbk 0).trans rfl
    have hc1 := (blk_cell hbk 1).trans rfl
    have HBK := Aside0.mk hbk
    clear hbk
    by_cases c2 : i < n
    · have c2b0 : decide (i < n) = true := decide_eq_true c2
      obtain ⟨k1, hk1⟩ : ∃ k1, gk = k1 + 1 := ⟨gk - 1, by have := HI_.out; omega⟩
      have HS1 := HS.out
      rw [hk1] at HS1
      have HK1 := Aside0.mk hk1
      have HC2 := Aside0.mk c2
      clear hk1 c2
      by_cases hv : (Rd.vl xs e).2.2 = 0
      · have hv0 : ((Rd.vl xs e).2.2 != 0) = false := bne_eq_false_iff_eq.mpr hv
        have HS2 : rowcode_Get.gl k1 (rows ++ [(⟨(Rd.vl xs e).1.1, (Rd.vl xs e).1.2.1, (Rd.vl xs e).1.2.2⟩ : S36)]) (Rd.vl xs e).2.1 (Rd.vl xs e).2.2 = (r1, r2) := by rw [← HS1, rowcode_Get.gl, if_pos hv]
        have HS3 := Aside0.mk HS2
        clear HS1 HS2 hv
        go_wp2_with (first | (go_at_call 43; (with_reducible refine (Rd.val_any w _ w.heap.size _ _ HI.out HB.out (by have := HYL.out.2; omega) HYL.out.1).mono ?_); rintro en w5 ⟨rfl, hI5, hB5, hK5⟩; have HO5 := Aside0.mk (Kd.R_keep (Kd.R_types HO.out HBK.out (by decide)) hK5 (fun _ hk => hk.2)); have HI5 := Aside0.mk hI5; have HB5 := Aside0.mk hB5; clear hI5 hB5 hK5) | ((with_reducible refine gate_builtin (b := .append) (xs := #[.tmp 15, .tmp 18]) rfl ?_); at_builtin; refine Kd.R_append k36 (w0 := w) w.heap.size rfl (.tmp 15) (.tmp 18) 43 36 (.agg #[(.int .u8 0), (.int .i64 0), (.string ⟨#[]⟩)]) 32 rfl Try.underlying43 info36 rfl (by decide) (by omega) u5 rows (⟨(Rd.vl xs e).1.1, (Rd.vl xs e).1.2.1, (Rd.vl xs e).1.2.2⟩ : S36) [.int .u8 (Rd.vl xs e).1.1, .int .i64 (Rd.vl xs e).1.2.1, .string (Rd.vl xs e).1.2.2] (fun _ => True) (fun _ => False) rfl (by first | (go_simp; done) | (go_simp; rfl)) ?aP (fun _ hk => hk.elim) ?aF ?aO ?aB ?aS ?aL ?_; (case aP => exact k36_mkM _ _ _ (⟨(Rd.vl xs e).1.1, (Rd.vl xs e).1.2.1, (Rd.vl xs e).1.2.2⟩ : S36)); (case aB => exact (by repeat (first | (with_reducible first | exact HB5.out | apply below_alloc | apply pw_below_drewN | apply below_drew1) | exact HB5.out))); (case aF => exact (fun _ _ => trivial)); (case aO => exact (by (with_reducible repeat (first | apply Kd.R_alloc | apply Kd.R_drewN | apply Kd.R_drew)); exact Kd.R_mono HO5.out (fun _ _ => trivial))); (case aS => exact (below_size (by repeat (first | (with_reducible first | exact HB5.out | apply below_alloc | apply pw_below_drewN | apply below_drew1) | exact HB5.out)))); (case aL => have := HR.out; have := HI_.out; have := HN.out; omega); intro v6 w6 ho hb hg_ hat; have HO6 := Aside0.mk ho; have HB6 := Aside0.mk hb; have HI6 := Aside0.mk (grown_cur (by first | exact HI5.out | exact HI5.out.alloc _) (by first | exact HO5.out | exact Kd.R_alloc HO5.out _) hg_); obtain ⟨A6, cc6, hbk6⟩ := HI6.out.blk; have HBK6 := Aside0.mk hbk6; have hc60 := (blk_cell hbk6 0).trans rfl; have hc61 := (blk_cell hbk6 1).trans rfl; clear ho hb hg_ hat hbk6))
        go_roundg k1
        case measure => have := HK1.out; omega
        case rel =>
          have h1 := HI_.out
          have h2 := HN.out
          have h3 := HK1.out
          have h4 := HC2.out
          have h5 := HR.out
          exact ⟨_, i + 1, _, _, by rw [show (i + 1) % 256 = i + 1 by omega], ⟨by omega⟩, HS3, HO6, HI6, HB6, ⟨HYL.out.1.vlb e, Nat.le_trans (Rd.vl_le xs e) HYL.out.2⟩, ⟨by rw [List.length_append, List.length_singleton]; omega⟩⟩
      · have hv0 : ((Rd.vl xs e).2.2 != 0) = true := bne_iff_ne.mpr hv
        have HS2 : (([], (Rd.vl xs e).2.2) : List S36 × Int) = (r1, r2) := by rw [← HS1, rowcode_Get.gl, if_neg hv]
        have HS3 := Aside0.mk HS2
        clear HS1 HS2 hv
        go_wp2_with (first | (go_at_call 43; (with_reducible refine (Rd.val_any w _ w.heap.size _ _ HI.out HB.out (by have := HYL.out.2; omega) HYL.out.1).mono ?_); rintro en w5 ⟨rfl, hI5, hB5, hK5⟩; have HO5 := Aside0.mk (Kd.R_keep (Kd.R_types HO.out HBK.out (by decide)) hK5 (fun _ hk => hk.2)); have HI5 := Aside0.mk hI5; have HB5 := Aside0.mk hB5; clear hI5 hB5 hK5) | ((with_reducible refine gate_builtin (b := .append) (xs := #[.tmp 15, .tmp 18]) rfl ?_); at_builtin; refine Kd.R_append k36 (w0 := w) w.heap.size rfl (.tmp 15) (.tmp 18) 43 36 (.agg #[(.int .u8 0), (.int .i64 0), (.string ⟨#[]⟩)]) 32 rfl Try.underlying43 info36 rfl (by decide) (by omega) u5 rows (⟨(Rd.vl xs e).1.1, (Rd.vl xs e).1.2.1, (Rd.vl xs e).1.2.2⟩ : S36) [.int .u8 (Rd.vl xs e).1.1, .int .i64 (Rd.vl xs e).1.2.1, .string (Rd.vl xs e).1.2.2] (fun _ => True) (fun _ => False) rfl (by first | (go_simp; done) | (go_simp; rfl)) ?aP (fun _ hk => hk.elim) ?aF ?aO ?aB ?aS ?aL ?_; (case aP => exact k36_mkM _ _ _ (⟨(Rd.vl xs e).1.1, (Rd.vl xs e).1.2.1, (Rd.vl xs e).1.2.2⟩ : S36)); (case aB => exact (by repeat (first | (with_reducible first | exact HB5.out | apply below_alloc | apply pw_below_drewN | apply below_drew1) | exact HB5.out))); (case aF => exact (fun _ _ => trivial)); (case aO => exact (by (with_reducible repeat (first | apply Kd.R_alloc | apply Kd.R_drewN | apply Kd.R_drew)); exact Kd.R_mono HO5.out (fun _ _ => trivial))); (case aS => exact (below_size (by repeat (first | (with_reducible first | exact HB5.out | apply below_alloc | apply pw_below_drewN | apply below_drew1) | exact HB5.out)))); (case aL => have := HR.out; have := HI_.out; have := HN.out; omega); intro v6 w6 ho hb hg_ hat; have HO6 := Aside0.mk ho; have HB6 := Aside0.mk hb; have HI6 := Aside0.mk (grown_cur (by first | exact HI5.out | exact HI5.out.alloc _) (by first | exact HO5.out | exact Kd.R_alloc HO5.out _) hg_); obtain ⟨A6, cc6, hbk6⟩ := HI6.out.blk; have HBK6 := Aside0.mk hbk6; have hc60 := (blk_cell hbk6 0).trans rfl; have hc61 := (blk_cell hbk6 1).trans rfl; clear ho hb hg_ hat hbk6))
        go_quiet (fail)
        go_wp2
        go_ret2
        obtain ⟨rfl, rfl⟩ := Prod.mk.inj HS3.out
        exact ⟨_, rfl, Kd.R_nil _ _ _ _ _, pw_below_drewN HB6.out _⟩
    · have c2b0 : decide (i < n) = false := decide_eq_false c2
      have hk0 : gk = 0 := by have := HI_.out; omega
      have HS1 := HS.out
      rw [hk0, rowcode_Get.gl] at HS1
      clear c2 hk0
      by_cases hx0 : 0 < xs.length
      · have hx1 : decide (0 < (xs.length : Int)) = true := decide_eq_true (by omega)
        have hx2 : decide (0 < xs.length) = true := decide_eq_true hx0
        rw [if_pos hx0] at HS1
        have HX := Aside0.mk hx0
        clear hx0
        by_cases hv : Rd.fl e 2 = 0
        · have hv0 : (Rd.fl e 2 != 0) = false := bne_eq_false_iff_eq.mpr hv
          rw [if_pos hv] at HS1
          have HS3 := Aside0.mk HS1
          clear HS1 hv
          go_wp2_with (go_at_call 44; (with_reducible refine (Rd.fail_cur w _ w.heap.size _ _ 2 HI.out HB.out).mono ?_); rintro en w7 ⟨rfl, hI7, hB7, hK7⟩; have HO7 := Aside0.mk (Kd.R_mono (Kd.R_keep (Kd.R_types HO.out HBK.out (by decide)) hK7 (fun _ hk => hk.2)) (fun _ _ => trivial)); obtain ⟨A7, cc7, hbk7⟩ := hI7.blk; have hc70 := (blk_cell hbk7 0).trans rfl; have hc71 := (blk_cell hbk7 1).trans rfl; have HB7 := Aside0.mk hB7; clear hI7 hB7 hK7 hbk7)
          go_ret2
          obtain ⟨rfl, rfl⟩ := Prod.mk.inj HS3.out
          exact ⟨_, rfl, HO7.out, HB7.out⟩
        · have hv0 : (Rd.fl e 2 != 0) = true := bne_iff_ne.mpr hv
          rw [if_neg hv] at HS1
          have HS3 := Aside0.mk HS1
          clear HS1 hv
          go_wp2_with (go_at_call 44; (with_reducible refine (Rd.fail_cur w _ w.heap.size _ _ 2 HI.out HB.out).mono ?_); rintro en w7 ⟨rfl, hI7, hB7, hK7⟩; have HO7 := Aside0.mk (Kd.R_mono (Kd.R_keep (Kd.R_types HO.out HBK.out (by decide)) hK7 (fun _ hk => hk.2)) (fun _ _ => trivial)); obtain ⟨A7, cc7, hbk7⟩ := hI7.blk; have hc70 := (blk_cell hbk7 0).trans rfl; have hc71 := (blk_cell hbk7 1).trans rfl; have HB7 := Aside0.mk hB7; clear hI7 hB7 hK7 hbk7)
          go_quiet (fail)
          go_wp2
          go_ret2
          obtain ⟨rfl, rfl⟩ := Prod.mk.inj HS3.out
          exact ⟨_, rfl, Kd.R_nil _ _ _ _ _, pw_below_drewN HB7.out _⟩
      · have hx1 : decide (0 < (xs.length : Int)) = false := decide_eq_false (by omega)
        have hx2 : decide (0 < xs.length) = false := decide_eq_false hx0
        rw [if_neg hx0] at HS1
        have HX := Aside0.mk hx0
        clear hx0
        by_cases hv : e = 0
        · have hv0 : (e != 0) = false := bne_eq_false_iff_eq.mpr hv
          rw [if_pos hv] at HS1
          have HS3 := Aside0.mk HS1
          clear HS1 hv
          go_wp2
          go_ret2
          obtain ⟨rfl, rfl⟩ := Prod.mk.inj HS3.out
          exact ⟨_, rfl, HO.out, HB.out⟩
        · have hv0 : (e != 0) = true := bne_iff_ne.mpr hv
          rw [if_neg hv] at HS1
          have HS3 := Aside0.mk HS1
          clear HS1 hv
          go_wp2
          go_quiet (fail)
          go_wp2
          go_ret2
          obtain ⟨rfl, rfl⟩ := Prod.mk.inj HS3.out
          exact ⟨_, rfl, Kd.R_nil _ _ _ _ _, pw_below_drewN HB.out _⟩

end Go.Proofs.Ytegegpdaalfbdaa.XRowcodeGets
