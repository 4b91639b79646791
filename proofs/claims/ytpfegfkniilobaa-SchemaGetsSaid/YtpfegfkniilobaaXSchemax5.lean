-- Written by this session's own program (wip/own_print.py) over the kit's print, with this session's hand-proved contracts in their places; Lean checks it.
import Derived.Test.YtpfegfkniilobaaXSchemax0
import Derived.Test.YtpfegfkniilobaaBs
import Derived.Test.YtpfegfkniilobaaXSchemax3
import Derived.Test.YtpfegfkniilobaaXSchemax4
namespace Go.Proofs.Ytpfegfkniilobaa.XSchema
open Go.RowKit Go.Proofs.YtpfegfkniilobaaW.PrintWords Go.Proofs.YtpfegfkniilobaaW.PrintLast Go.Proofs.YtpfegfkniilobaaW.PrintMore
attribute [local go_sem] max2_int min2_int max_two min_two max_three min_three max_four min_four   -- for this text's walks alone
set_option linter.unusedVariables false
set_option linter.unusedSimpArgs false

/-! ### schema_index: function 72 -/
mutual
def schema_index.j0 : Nat → Bool → List (S84) → List (S135) → ByteArray → Int → List Int → Int → Int → Int → List Int → Option (Bool)
 | 0, _, _, _, _, _, _, _, _, _, _ => none
 | k + 1, x29, x137000, x137001, x138000, x138001, x138002, x138003, x138004, x138005, x138006 => if x29 = true then (some false) else (schema_index.l0 k x138002 (x138002.length : Int) 0 x137000 x137001 x138000 x138001 x138002 x138003 x138004 x138005 x138006)
def schema_index.l0 : Nat → List Int → Int → Int → List (S84) → List (S135) → ByteArray → Int → List Int → Int → Int → Int → List Int → Option (Bool)
 | 0, _, _, _, _, _, _, _, _, _, _, _, _ => none
 | k + 1, x31, x32, x33, x137000, x137001, x138000, x138001, x138002, x138003, x138004, x138005, x138006 => if x33 < x32 then (if 0 ≤ x33 then (if x33 < (x31.length : Int) then (if (rd x31 x33) < 0 then (some false) else (if 0 ≤ x138001 then (if x138001 < (x137000.length : Int) then (if (rd x31 x33) ≥ (((rd_T84 x137000 x138001).f1).length : Int) then (some false) else (if x33 ≤ (x138002.length : Int) then ((slices_Contains_int_int.f k (x138002.take (x33 : Int).toNat) (rd x31 x33)).bind fun t141 => (if t141 = true then (some false) else (schema_index.l0 k x31 x32 (wrap64 (x33 + 1)) x137000 x137001 x138000 x138001 x138002 x138003 x138004 x138005 x138006))) else (none))) else (none)) else (none))) else (none)) else (none)) else (if (x138006.length : Int) = (x138002.length : Int) then ((schema_right.f k x138006).bind fun t142 => (if t142 = true then ((schema_right.f k (([x138004, x138005, wrap64 (x138003)] : List Int))).bind fun t146 => (some t146)) else (some false))) else (some false))
end
def schema_index.f (k : Nat) (l0_0 : List (S84)) (l0_1 : List (S135)) (a1_0 : ByteArray) (a1_1 : Int) (l1_2 : List Int) (a1_3 : Int) (a1_4 : Int) (a1_5 : Int) (l1_6 : List Int) : Option (Bool) := if a1_1 < 0 then (schema_index.j0 k true l0_0 l0_1 a1_0 a1_1 l1_2 a1_3 a1_4 a1_5 l1_6) else (if a1_1 ≥ (l0_0.length : Int) then (schema_index.j0 k true l0_0 l0_1 a1_0 a1_1 l1_2 a1_3 a1_4 a1_5 l1_6) else (if (l1_2.length : Int) = 0 then (schema_index.j0 k true l0_0 l0_1 a1_0 a1_1 l1_2 a1_3 a1_4 a1_5 l1_6) else (schema_index.j0 k (decide ((l1_2.length : Int) > 2)) l0_0 l0_1 a1_0 a1_1 l1_2 a1_3 a1_4 a1_5 l1_6)))
theorem schema_index.mono_l : ∀ k, (∀ y0 y1 y2 y3 y4 y5 y6 y7 y8 y9, LeO (schema_index.j0 k y0 y1 y2 y3 y4 y5 y6 y7 y8 y9) (schema_index.j0 (k + 1) y0 y1 y2 y3 y4 y5 y6 y7 y8 y9)) ∧ (∀ y0 y1 y2 y3 y4 y5 y6 y7 y8 y9 y10 y11, LeO (schema_index.l0 k y0 y1 y2 y3 y4 y5 y6 y7 y8 y9 y10 y11) (schema_index.l0 (k + 1) y0 y1 y2 y3 y4 y5 y6 y7 y8 y9 y10 y11))
 | 0 => ⟨fun _ _ _ _ _ _ _ _ _ _ r h => by simp [schema_index.j0] at h, fun _ _ _ _ _ _ _ _ _ _ _ _ r h => by simp [schema_index.l0] at h⟩
 | k + 1 => by
  obtain ⟨ih0, ih1⟩ := schema_index.mono_l k; refine ⟨?_, ?_⟩
  ·intro y0 y1 y2 y3 y4 y5 y6 y7 y8 y9
   unfold schema_index.j0
   repeat' first
   | (with_reducible exact ih0 _ _ _ _ _ _ _ _ _ _)
   | (with_reducible exact ih1 _ _ _ _ _ _ _ _ _ _ _ _)
   | (with_reducible exact schema_right.mono _ _)
   | (with_reducible exact slices_Contains_int_int.mono _ _ _)
   | (with_reducible exact LeO.refl _)
   | (with_reducible exact LeO.none _)
   | (with_reducible refine LeO.ite ?_ ?_)
   | (with_reducible refine LeO.bind ?_ (fun _ => ?_))
   | exact ih0 _ _ _ _ _ _ _ _ _ _
   | exact ih1 _ _ _ _ _ _ _ _ _ _ _ _
   | exact schema_right.mono _ _
   | exact slices_Contains_int_int.mono _ _ _
   | exact LeO.none _
   | refine LeO.ite ?_ ?_
   | refine LeO.bind ?_ (fun _ => ?_)
  ·intro y0 y1 y2 y3 y4 y5 y6 y7 y8 y9 y10 y11
   unfold schema_index.l0
   repeat' first
   | (with_reducible exact ih0 _ _ _ _ _ _ _ _ _ _)
   | (with_reducible exact ih1 _ _ _ _ _ _ _ _ _ _ _ _)
   | (with_reducible exact schema_right.mono _ _)
   | (with_reducible exact slices_Contains_int_int.mono _ _ _)
   | (with_reducible exact LeO.refl _)
   | (with_reducible exact LeO.none _)
   | (with_reducible refine LeO.ite ?_ ?_)
   | (with_reducible refine LeO.bind ?_ (fun _ => ?_))
   | exact ih0 _ _ _ _ _ _ _ _ _ _
   | exact ih1 _ _ _ _ _ _ _ _ _ _ _ _
   | exact schema_right.mono _ _
   | exact slices_Contains_int_int.mono _ _ _
   | exact LeO.none _
   | refine LeO.ite ?_ ?_
   | refine LeO.bind ?_ (fun _ => ?_)
theorem schema_index.mono : ∀ a0 a1 a2 a3 a4 a5 a6 a7 a8 k, LeO (schema_index.f k a0 a1 a2 a3 a4 a5 a6 a7 a8) (schema_index.f (k + 1) a0 a1 a2 a3 a4 a5 a6 a7 a8) := by
 intro a0 a1 a2 a3 a4 a5 a6 a7 a8 k; obtain ⟨ih0, ih1⟩ := schema_index.mono_l k
 unfold schema_index.f
 repeat' first
   | (with_reducible exact ih0 _ _ _ _ _ _ _ _ _ _)
   | (with_reducible exact ih1 _ _ _ _ _ _ _ _ _ _ _ _)
   | (with_reducible exact schema_right.mono _ _)
   | (with_reducible exact slices_Contains_int_int.mono _ _ _)
   | (with_reducible exact LeO.refl _)
   | (with_reducible exact LeO.none _)
   | (with_reducible refine LeO.ite ?_ ?_)
   | (with_reducible refine LeO.bind ?_ (fun _ => ?_))
   | exact ih0 _ _ _ _ _ _ _ _ _ _
   | exact ih1 _ _ _ _ _ _ _ _ _ _ _ _
   | exact schema_right.mono _ _
   | exact slices_Contains_int_int.mono _ _ _
   | exact LeO.none _
   | refine LeO.ite ?_ ?_
   | refine LeO.bind ?_ (fun _ => ?_)
set_option maxHeartbeats 8000000 in
set_option maxRecDepth 100000 in
theorem schema_index.calls (k : Nat) (A0_0 : Option Addr) (c0_0 : Nat) (l0_0 : List (S84)) (A0_1 : Option Addr) (c0_1 : Nat) (l0_1 : List (S135)) (a1_0 : ByteArray) (a1_1 : Int) (A1_2 : Option Addr) (c1_2 : Nat) (l1_2 : List Int) (a1_3 : Int) (a1_4 : Int) (a1_5 : Int) (A1_6 : Option Addr) (c1_6 : Nat) (l1_6 : List Int) (r : Bool) (w : World) (hr0_0 : Kd.C k84 w A0_0 l0_0.length l0_0) (hc0_0 : l0_0.length ≤ c0_0) (hr0_1 : Kd.C k135 w A0_1 l0_1.length l0_1) (hc0_1 : l0_1.length ≤ c0_1) (hr1_2 : Kd.C (Kd.int .i64) w A1_2 l1_2.length l1_2) (hc1_2 : l1_2.length ≤ c1_2) (hr1_6 : Kd.C (Kd.int .i64) w A1_6 l1_6.length l1_6) (hc1_6 : l1_6.length ≤ c1_6) (h : schema_index.f k l0_0 l0_1 a1_0 a1_1 l1_2 a1_3 a1_4 a1_5 l1_6 = some r) :
  Calls Try.prog 72 #[.agg #[.slice A0_0 l0_0.length c0_0, .slice A0_1 l0_1.length c0_1], .agg #[.string a1_0, .int .i64 a1_1, .slice A1_2 l1_2.length c1_2, .int .u32 a1_3, .int .i64 a1_4, .int .i64 a1_5, .slice A1_6 l1_6.length c1_6]] w fun e w' => e = .returned (.bool r) ∧ Below w.heap.size w w' := by
 have hu80 := Try.underlying80; have hu135 := Try.underlying135; have HR0_0 := Aside0.mk hr0_0; have HC0_0 := Aside0.mk hc0_0; clear hr0_0 hc0_0; have HR0_1 := Aside0.mk hr0_1; have HC0_1 := Aside0.mk hc0_1; clear hr0_1 hc0_1; have HR1_2 := Aside0.mk hr1_2; have HC1_2 := Aside0.mk hc1_2; clear hr1_2 hc1_2; have HR1_6 := Aside0.mk hr1_6; have HC1_6 := Aside0.mk hc1_6; clear hr1_6 hc1_6; have HB := Aside0.mk (Below.refl w.heap.size w); have H : (if a1_1 < 0 then (schema_index.j0 k true l0_0 l0_1 a1_0 a1_1 l1_2 a1_3 a1_4 a1_5 l1_6) else (if a1_1 ≥ (l0_0.length : Int) then (schema_index.j0 k true l0_0 l0_1 a1_0 a1_1 l1_2 a1_3 a1_4 a1_5 l1_6) else (if (l1_2.length : Int) = 0 then (schema_index.j0 k true l0_0 l0_1 a1_0 a1_1 l1_2 a1_3 a1_4 a1_5 l1_6) else (schema_index.j0 k (decide ((l1_2.length : Int) > 2)) l0_0 l0_1 a1_0 a1_1 l1_2 a1_3 a1_4 a1_5 l1_6)))) = some r := h; clear h; have HC3 := Aside0.mk H; clear H
 go_enter Try.func72, Try.ntmps72
 go_upto_region 1 with (first | ((with_reducible refine gate_dst (N := 2) rfl ?_); (try (refine gate_guard (by rfl) ?_; dsimp only)); refine box_event ?hg (N := 2) ?hd (cs := #[.slice A0_0 l0_0.length c0_0, .slice A0_1 l0_1.length c0_1]) (t := 80) ?hr ?_; (case hd => rfl); (case hg => rfl); (case hr => first | (go_simp; done) | (go_simp; rfl)); intro gb136 hg w4 hbox hb; have n0_ := Aside0.mk (below_step HB.out hb); have n1_ := Aside0.mk (hbox); have n2_ := Aside0.mk ((by rw [hg]; exact (below_size HB.out) : w.heap.size ≤ gb136)); have n3_ := Aside0.mk ((by rw [hg]; exact (below_size HB.out) : w.heap.size ≤ gb136)); clear HB; have HB := n0_; have BK136 := n1_; have GW136 := n2_; have GE136 := n3_; clear n0_ n1_ n2_ n3_; clear hb hbox hg) | ((with_reducible refine gate_dst (N := 3) rfl ?_); (try (refine gate_guard (by rfl) ?_; dsimp only)); refine box_event ?hg (N := 3) ?hd (cs := #[.string a1_0, .int .i64 a1_1, .slice A1_2 l1_2.length c1_2, .int .u32 a1_3, .int .i64 a1_4, .int .i64 a1_5, .slice A1_6 l1_6.length c1_6]) (t := 135) ?hr ?_; (case hd => rfl); (case hg => rfl); (case hr => first | (go_simp; done) | (go_simp; rfl)); intro gb137 hg w5 hbox hb; have n0_ := Aside0.mk (blk_below (g := gb136) (o := .cells #[.slice A0_0 l0_0.length c0_0, .slice A0_1 l0_1.length c0_1] 80 (0, 0)) BK136.out hb); have n1_ := Aside0.mk (below_step HB.out hb); have n2_ := Aside0.mk (hbox); have n3_ := Aside0.mk ((by rw [hg]; exact (below_size HB.out) : w.heap.size ≤ gb137)); have n4_ := Aside0.mk ((by rw [hg]; exact (below_size HB.out) : w.heap.size ≤ gb137)); have n5_ := Aside0.mk ((by rw [hg]; exact Nat.ne_of_lt (blk_lt (g := gb136) (o := .cells #[.slice A0_0 l0_0.length c0_0, .slice A0_1 l0_1.length c0_1] 80 (0, 0)) BK136.out) : gb136 ≠ gb137)); have n6_ := Aside0.mk ((by rw [hg]; exact Nat.ne_of_gt (blk_lt (g := gb136) (o := .cells #[.slice A0_0 l0_0.length c0_0, .slice A0_1 l0_1.length c0_1] 80 (0, 0)) BK136.out) : gb137 ≠ gb136)); clear BK136; clear HB; have BK136 := n0_; have HB := n1_; have BK137 := n2_; have GW137 := n3_; have GE137 := n4_; have NB136_137 := n5_; have NB137_136 := n6_; clear n0_ n1_ n2_ n3_ n4_ n5_ n6_; clear hb hbox hg))
 (try simp only [Act.put, List.setIfInBounds_toArray, List.set_cons_zero, List.set_cons_succ])
 go_cut [29] (fun v29 wc => ∃ (kq : Nat) (x29_2 : Bool), v29 = .bool x29_2 ∧ Aside0 (schema_index.j0 kq x29_2 l0_0 l0_1 a1_0 a1_1 l1_2 a1_3 a1_4 a1_5 l1_6 = some r) ∧ Aside0 (kq ≤ k) ∧ Aside0 (wc.heap[gb136]? = some (.cells #[(.slice A0_0 l0_0.length c0_0), (.slice A0_1 l0_1.length c0_1)] 80 (0, 0))) ∧ Aside0 (wc.heap[gb137]? = some (.cells #[.string a1_0, .int .i64 a1_1, (.slice A1_2 l1_2.length c1_2), .int .u32 a1_3, .int .i64 a1_4, .int .i64 a1_5, (.slice A1_6 l1_6.length c1_6)] 135 (0, 0))) ∧ Aside0 (Below w.heap.size w wc))
 case first =>
  have H := HC3.out; clear HC3
  by_cases c6 : a1_1 < 0
  ·rw [if_pos c6] at H
   have c6b0 : decide (a1_1 < 0) = true := decide_eq_true c6; clear c6
   (first | rw [c6b0] | (simp only [i64_w, i32_w]; rw [c6b0]) | skip)
   have H' := Aside0.mk H; clear H; have hnb7 := NB137_136.out; have hnc7 := NB136_137.out; have hcz8_0 := (blk_cell BK137.out 0).trans rfl; have hcz8_1 := (blk_cell BK137.out 1).trans rfl; have hcz8_2 := (blk_cell BK137.out 2).trans rfl; have hcz8_3 := (blk_cell BK137.out 3).trans rfl; have hcz8_4 := (blk_cell BK137.out 4).trans rfl; have hcz8_5 := (blk_cell BK137.out 5).trans rfl; have hcz8_6 := (blk_cell BK137.out 6).trans rfl; have hfz8_0 := blk_frozen BK137.out 0; have hfz8_1 := blk_frozen BK137.out 1; have hfz8_2 := blk_frozen BK137.out 2; have hfz8_3 := blk_frozen BK137.out 3; have hfz8_4 := blk_frozen BK137.out 4; have hfz8_5 := blk_frozen BK137.out 5; have hfz8_6 := blk_frozen BK137.out 6
   go_wp2
   go_meet
   case rel => exact ⟨_, (true), (by first | rfl | (simp; done) | (simp [*]; done)), H', ⟨by first | omega | exact Nat.le_refl _⟩, ⟨by (with_reducible repeat (first | refine blk_drewN ?_ _ | refine blk_drew ?_ | refine blk_alloc ?_ _)); exact BK136.out⟩, ⟨by (with_reducible repeat (first | refine blk_drewN ?_ _ | refine blk_drew ?_ | refine blk_alloc ?_ _)); exact BK137.out⟩, ⟨by repeat (first | (with_reducible first | exact HB.out | apply below_alloc | apply pw_below_drewN | apply below_drew1 | refine below_set ?_ GE136.out | refine below_set ?_ GE137.out) | exact HB.out)⟩⟩
  ·rw [if_neg c6] at H
   have c6b0 : decide (a1_1 < 0) = false := decide_eq_false c6; clear c6
   (first | rw [c6b0] | (simp only [i64_w, i32_w]; rw [c6b0]) | skip)
   by_cases c9 : a1_1 ≥ (l0_0.length : Int)
   ·rw [if_pos c9] at H
    have c9b0 : decide ((l0_0.length : Int) ≤ a1_1) = true := decide_eq_true c9; clear c9; have H' := Aside0.mk H; clear H; have hnb10 := NB137_136.out; have hnc10 := NB136_137.out; have hcz11_0 := (blk_cell BK137.out 0).trans rfl; have hcz11_1 := (blk_cell BK137.out 1).trans rfl; have hcz11_2 := (blk_cell BK137.out 2).trans rfl; have hcz11_3 := (blk_cell BK137.out 3).trans rfl; have hcz11_4 := (blk_cell BK137.out 4).trans rfl; have hcz11_5 := (blk_cell BK137.out 5).trans rfl; have hcz11_6 := (blk_cell BK137.out 6).trans rfl; have hfz11_0 := blk_frozen BK137.out 0; have hfz11_1 := blk_frozen BK137.out 1; have hfz11_2 := blk_frozen BK137.out 2; have hfz11_3 := blk_frozen BK137.out 3; have hfz11_4 := blk_frozen BK137.out 4; have hfz11_5 := blk_frozen BK137.out 5; have hfz11_6 := blk_frozen BK137.out 6; have hcz12_0 := (blk_cell BK136.out 0).trans rfl; have hcz12_1 := (blk_cell BK136.out 1).trans rfl; have hfz12_0 := blk_frozen BK136.out 0; have hfz12_1 := blk_frozen BK136.out 1
    go_wp2
    go_meet
    case rel => exact ⟨_, (true), (by first | rfl | (simp; done) | (simp [*]; done)), H', ⟨by first | omega | exact Nat.le_refl _⟩, ⟨by (with_reducible repeat (first | refine blk_drewN ?_ _ | refine blk_drew ?_ | refine blk_alloc ?_ _)); exact BK136.out⟩, ⟨by (with_reducible repeat (first | refine blk_drewN ?_ _ | refine blk_drew ?_ | refine blk_alloc ?_ _)); exact BK137.out⟩, ⟨by repeat (first | (with_reducible first | exact HB.out | apply below_alloc | apply pw_below_drewN | apply below_drew1 | refine below_set ?_ GE136.out | refine below_set ?_ GE137.out) | exact HB.out)⟩⟩
   ·rw [if_neg c9] at H
    have c9b0 : decide ((l0_0.length : Int) ≤ a1_1) = false := decide_eq_false c9; clear c9
    by_cases c13 : (l1_2.length : Int) = 0
    ·rw [if_pos c13] at H
     have c13b0 : ((l1_2.length : Int) == 0) = true := beq_iff_eq.mpr c13; have c13b1 : ((l1_2.length : Int) != 0) = false := bne_eq_false_iff_eq.mpr c13; clear c13; have H' := Aside0.mk H; clear H; have hnb14 := NB137_136.out; have hnc14 := NB136_137.out; have hcz15_0 := (blk_cell BK137.out 0).trans rfl; have hcz15_1 := (blk_cell BK137.out 1).trans rfl; have hcz15_2 := (blk_cell BK137.out 2).trans rfl; have hcz15_3 := (blk_cell BK137.out 3).trans rfl; have hcz15_4 := (blk_cell BK137.out 4).trans rfl; have hcz15_5 := (blk_cell BK137.out 5).trans rfl; have hcz15_6 := (blk_cell BK137.out 6).trans rfl; have hfz15_0 := blk_frozen BK137.out 0; have hfz15_1 := blk_frozen BK137.out 1; have hfz15_2 := blk_frozen BK137.out 2; have hfz15_3 := blk_frozen BK137.out 3; have hfz15_4 := blk_frozen BK137.out 4; have hfz15_5 := blk_frozen BK137.out 5; have hfz15_6 := blk_frozen BK137.out 6; have hcz16_0 := (blk_cell BK136.out 0).trans rfl; have hcz16_1 := (blk_cell BK136.out 1).trans rfl; have hfz16_0 := blk_frozen BK136.out 0; have hfz16_1 := blk_frozen BK136.out 1
     go_wp2
     go_meet
     case rel => exact ⟨_, (true), (by first | rfl | (simp; done) | (simp [*]; done)), H', ⟨by first | omega | exact Nat.le_refl _⟩, ⟨by (with_reducible repeat (first | refine blk_drewN ?_ _ | refine blk_drew ?_ | refine blk_alloc ?_ _)); exact BK136.out⟩, ⟨by (with_reducible repeat (first | refine blk_drewN ?_ _ | refine blk_drew ?_ | refine blk_alloc ?_ _)); exact BK137.out⟩, ⟨by repeat (first | (with_reducible first | exact HB.out | apply below_alloc | apply pw_below_drewN | apply below_drew1 | refine below_set ?_ GE136.out | refine below_set ?_ GE137.out) | exact HB.out)⟩⟩
    ·rw [if_neg c13] at H
     have c13b0 : ((l1_2.length : Int) == 0) = false := beq_eq_false_iff_ne.mpr c13; have c13b1 : ((l1_2.length : Int) != 0) = true := bne_iff_ne.mpr c13; have c13b2 : ¬ (l1_2 = []) := fun h_ => c13 (by rw [h_]; rfl); have H' := Aside0.mk H; clear H; have hnb17 := NB137_136.out; have hnc17 := NB136_137.out; have hcz18_0 := (blk_cell BK137.out 0).trans rfl; have hcz18_1 := (blk_cell BK137.out 1).trans rfl; have hcz18_2 := (blk_cell BK137.out 2).trans rfl; have hcz18_3 := (blk_cell BK137.out 3).trans rfl; have hcz18_4 := (blk_cell BK137.out 4).trans rfl; have hcz18_5 := (blk_cell BK137.out 5).trans rfl; have hcz18_6 := (blk_cell BK137.out 6).trans rfl; have hfz18_0 := blk_frozen BK137.out 0; have hfz18_1 := blk_frozen BK137.out 1; have hfz18_2 := blk_frozen BK137.out 2; have hfz18_3 := blk_frozen BK137.out 3; have hfz18_4 := blk_frozen BK137.out 4; have hfz18_5 := blk_frozen BK137.out 5; have hfz18_6 := blk_frozen BK137.out 6; have hcz19_0 := (blk_cell BK136.out 0).trans rfl; have hcz19_1 := (blk_cell BK136.out 1).trans rfl; have hfz19_0 := blk_frozen BK136.out 0; have hfz19_1 := blk_frozen BK136.out 1
     go_wp2
     go_meet
     case rel => exact ⟨_, (decide ((l1_2.length : Int) > 2)), (by first | rfl | (simp; done) | (simp [*]; done)), H', ⟨by first | omega | exact Nat.le_refl _⟩, ⟨by (with_reducible repeat (first | refine blk_drewN ?_ _ | refine blk_drew ?_ | refine blk_alloc ?_ _)); exact BK136.out⟩, ⟨by (with_reducible repeat (first | refine blk_drewN ?_ _ | refine blk_drew ?_ | refine blk_alloc ?_ _)); exact BK137.out⟩, ⟨by repeat (first | (with_reducible first | exact HB.out | apply below_alloc | apply pw_below_drewN | apply below_drew1 | refine below_set ?_ GE136.out | refine below_set ?_ GE137.out) | exact HB.out)⟩⟩
 case rest =>
  clear HC3; (try clear c1); (try clear p2); (try clear c6); (try clear c6b0); (try clear c7); (try clear c9); (try clear c9b0); (try clear c10); (try clear c13); (try clear c13b0); (try clear c13b1); (try clear c13b2); (try clear c14); (try clear c17); (try clear hcz11_0); (try clear hcz11_1); (try clear hcz11_2); (try clear hcz11_3); (try clear hcz11_4); (try clear hcz11_5); (try clear hcz11_6); (try clear hcz12_0); (try clear hcz12_1); (try clear hcz15_0); (try clear hcz15_1); (try clear hcz15_2); (try clear hcz15_3); (try clear hcz15_4); (try clear hcz15_5); (try clear hcz15_6); (try clear hcz16_0); (try clear hcz16_1); (try clear hcz18_0); (try clear hcz18_1); (try clear hcz18_2); (try clear hcz18_3); (try clear hcz18_4); (try clear hcz18_5); (try clear hcz18_6); (try clear hcz19_0); (try clear hcz19_1); (try clear hcz8_0); (try clear hcz8_1); (try clear hcz8_2); (try clear hcz8_3); (try clear hcz8_4); (try clear hcz8_5); (try clear hcz8_6); (try clear hfz11_0); (try clear hfz11_1); (try clear hfz11_2); (try clear hfz11_3); (try clear hfz11_4); (try clear hfz11_5); (try clear hfz11_6); (try clear hfz12_0); (try clear hfz12_1); (try clear hfz15_0); (try clear hfz15_1); (try clear hfz15_2); (try clear hfz15_3); (try clear hfz15_4); (try clear hfz15_5); (try clear hfz15_6); (try clear hfz16_0); (try clear hfz16_1); (try clear hfz18_0); (try clear hfz18_1); (try clear hfz18_2); (try clear hfz18_3); (try clear hfz18_4); (try clear hfz18_5); (try clear hfz18_6); (try clear hfz19_0); (try clear hfz19_1); (try clear hfz8_0); (try clear hfz8_1); (try clear hfz8_2); (try clear hfz8_3); (try clear hfz8_4); (try clear hfz8_5); (try clear hfz8_6); obtain ⟨kq, x29_2, rfl, HA, HJ2, BK136, BK137, HB⟩ := hcut
  cases kq with
  | zero => exact absurd HA.out (by simp [schema_index.j0])
  | succ kj2 =>
   have H := HA.out; clear HA; simp only [schema_index.j0] at H
   by_cases c20 : x29_2 = true
   ·subst c20
    have H1 : (some false) = some r := by rw [if_pos rfl] at H; exact H
    clear H; have H := H1; clear H1; obtain rfl := Option.some.inj H
    go_wp2
    go_ret
    exact ⟨by first | rfl | (simp [errW_none, errW_some] <;> rfl) | (simp [*, errW_none, errW_some] <;> rfl), by repeat (first | (with_reducible first | exact HB.out | apply below_alloc | apply pw_below_drewN | apply below_drew1 | refine below_set ?_ GE136.out | refine below_set ?_ GE137.out) | exact HB.out)⟩
   ·replace c20 := Bool.eq_false_iff.mpr c20
    subst c20; have H1 : (schema_index.l0 kj2 l1_2 (l1_2.length : Int) 0 l0_0 l0_1 a1_0 a1_1 l1_2 a1_3 a1_4 a1_5 l1_6) = some r := by rw [if_neg (show ¬ (false = true) by decide)] at H; exact H
    clear H; have H := H1; clear H1; have H' := Aside0.mk H; clear H; have hnb21 := NB137_136.out; have hnc21 := NB136_137.out; have hcz22_0 := (blk_cell BK137.out 0).trans rfl; have hcz22_1 := (blk_cell BK137.out 1).trans rfl; have hcz22_2 := (blk_cell BK137.out 2).trans rfl; have hcz22_3 := (blk_cell BK137.out 3).trans rfl; have hcz22_4 := (blk_cell BK137.out 4).trans rfl; have hcz22_5 := (blk_cell BK137.out 5).trans rfl; have hcz22_6 := (blk_cell BK137.out 6).trans rfl; have hfz22_0 := blk_frozen BK137.out 0; have hfz22_1 := blk_frozen BK137.out 1; have hfz22_2 := blk_frozen BK137.out 2; have hfz22_3 := blk_frozen BK137.out 3; have hfz22_4 := blk_frozen BK137.out 4; have hfz22_5 := blk_frozen BK137.out 5; have hfz22_6 := blk_frozen BK137.out 6
    go_wp2
    go_loopg [33] kj2 (fun kq v33 w' => ∃ (x33_2 : Int), v33 = .int .i64 x33_2 ∧ Aside0 (schema_index.l0 kq l1_2 (l1_2.length : Int) x33_2 l0_0 l0_1 a1_0 a1_1 l1_2 a1_3 a1_4 a1_5 l1_6 = some r) ∧ Aside0 (kq ≤ kj2) ∧ Aside0 (w'.heap[gb136]? = some (.cells #[(.slice A0_0 l0_0.length c0_0), (.slice A0_1 l0_1.length c0_1)] 80 (0, 0))) ∧ Aside0 (w'.heap[gb137]? = some (.cells #[.string a1_0, .int .i64 a1_1, (.slice A1_2 l1_2.length c1_2), .int .u32 a1_3, .int .i64 a1_4, .int .i64 a1_5, (.slice A1_6 l1_6.length c1_6)] 135 (0, 0))) ∧ Aside0 (Below w.heap.size w w'))
    case atStart => exact ⟨(0), (by first | rfl | (simp; done) | (simp [*]; done)), H', ⟨Nat.le_refl _⟩, ⟨by (with_reducible repeat (first | refine blk_drewN ?_ _ | refine blk_drew ?_ | refine blk_alloc ?_ _)); exact BK136.out⟩, ⟨by (with_reducible repeat (first | refine blk_drewN ?_ _ | refine blk_drew ?_ | refine blk_alloc ?_ _)); exact BK137.out⟩, ⟨by repeat (first | (with_reducible first | exact HB.out | apply below_alloc | apply pw_below_drewN | apply below_drew1 | refine below_set ?_ GE136.out | refine below_set ?_ GE137.out) | exact HB.out)⟩⟩
    case round =>
     clear H'; (try clear c1); (try clear c2); (try clear p2); (try clear c6); (try clear c6b0); (try clear c7); (try clear c9); (try clear c9b0); (try clear c10); (try clear c13); (try clear c13b0); (try clear c13b1); (try clear c13b2); (try clear c14); (try clear c17); (try clear c20); (try clear c21); (try clear hcz11_0); (try clear hcz11_1); (try clear hcz11_2); (try clear hcz11_3); (try clear hcz11_4); (try clear hcz11_5); (try clear hcz11_6); (try clear hcz12_0); (try clear hcz12_1); (try clear hcz15_0); (try clear hcz15_1); (try clear hcz15_2); (try clear hcz15_3); (try clear hcz15_4); (try clear hcz15_5); (try clear hcz15_6); (try clear hcz16_0); (try clear hcz16_1); (try clear hcz18_0); (try clear hcz18_1); (try clear hcz18_2); (try clear hcz18_3); (try clear hcz18_4); (try clear hcz18_5); (try clear hcz18_6); (try clear hcz19_0); (try clear hcz19_1); (try clear hcz22_0); (try clear hcz22_1); (try clear hcz22_2); (try clear hcz22_3); (try clear hcz22_4); (try clear hcz22_5); (try clear hcz22_6); (try clear hcz8_0); (try clear hcz8_1); (try clear hcz8_2); (try clear hcz8_3); (try clear hcz8_4); (try clear hcz8_5); (try clear hcz8_6); (try clear hfz11_0); (try clear hfz11_1); (try clear hfz11_2); (try clear hfz11_3); (try clear hfz11_4); (try clear hfz11_5); (try clear hfz11_6); (try clear hfz12_0); (try clear hfz12_1); (try clear hfz15_0); (try clear hfz15_1); (try clear hfz15_2); (try clear hfz15_3); (try clear hfz15_4); (try clear hfz15_5); (try clear hfz15_6); (try clear hfz16_0); (try clear hfz16_1); (try clear hfz18_0); (try clear hfz18_1); (try clear hfz18_2); (try clear hfz18_3); (try clear hfz18_4); (try clear hfz18_5); (try clear hfz18_6); (try clear hfz19_0); (try clear hfz19_1); (try clear hfz22_0); (try clear hfz22_1); (try clear hfz22_2); (try clear hfz22_3); (try clear hfz22_4); (try clear hfz22_5); (try clear hfz22_6); (try clear hfz8_0); (try clear hfz8_1); (try clear hfz8_2); (try clear hfz8_3); (try clear hfz8_4); (try clear hfz8_5); (try clear hfz8_6); (try clear p2); obtain ⟨x33_2, rfl, HA, HK2, BK136, BK137, HB⟩ := hrel
     cases gk with
     | zero => exact absurd HA.out (by simp [schema_index.l0])
     | succ k2 =>
      have H := HA.out; clear HA; simp only [schema_index.l0] at H
      by_cases c23 : x33_2 < (l1_2.length : Int)
      ·rw [if_pos c23] at H
       have c23b0 : decide (x33_2 < (l1_2.length : Int)) = true := decide_eq_true c23; clear c23
       by_cases c24 : 0 ≤ x33_2
       ·rw [if_pos c24] at H
        have c24b0 : decide (0 ≤ x33_2) = true := decide_eq_true c24; clear c24
        by_cases c25 : x33_2 < (l1_2.length : Int)
        ·rw [if_pos c25] at H
         have c25b0 : decide (x33_2 < (l1_2.length : Int)) = true := decide_eq_true c25; clear c25
         by_cases c26 : (rd l1_2 x33_2) < 0
         ·rw [if_pos c26] at H
          have c26b0 : decide ((rd l1_2 x33_2) < 0) = true := decide_eq_true c26; clear c26; obtain rfl := Option.some.inj H; have p138 : 0 ≤ (x33_2 : Int) := of_decide_eq_true (by first | (with_reducible assumption) | assumption); have q138 : x33_2 < (l1_2.length : Int) := of_decide_eq_true (by first | (with_reducible assumption) | assumption); obtain ⟨ad138, e138, hx138_0⟩ := Kd.at_int HR1_2.out x33_2 p138 q138
          cases e138
          replace hx138_0 := (HB.out.cell (World.block_lt_of_cell? w _ hx138_0)).trans hx138_0; replace p138 := eq_true p138; have p138D := p138; try simp only [List.length_drop, List.length_take] at p138D
          replace q138 := eq_true q138; have q138D := q138; try simp only [List.length_drop, List.length_take] at q138D
          go_wp2
          go_ret
          exact ⟨by first | rfl | (simp [errW_none, errW_some] <;> rfl) | (simp [*, errW_none, errW_some] <;> rfl), by repeat (first | (with_reducible first | exact HB.out | apply below_alloc | apply pw_below_drewN | apply below_drew1 | refine below_set ?_ GE136.out | refine below_set ?_ GE137.out) | exact HB.out)⟩
         ·rw [if_neg c26] at H
          have c26b0 : decide ((rd l1_2 x33_2) < 0) = false := decide_eq_false c26; clear c26
          by_cases c27 : 0 ≤ a1_1
          ·rw [if_pos c27] at H
           have c27b0 : decide (0 ≤ a1_1) = true := decide_eq_true c27; clear c27
           by_cases c28 : a1_1 < (l0_0.length : Int)
           ·rw [if_pos c28] at H
            have c28b0 : decide (a1_1 < (l0_0.length : Int)) = true := decide_eq_true c28; clear c28
            by_cases c29 : (rd l1_2 x33_2) ≥ (((rd_T84 l0_0 a1_1).f1).length : Int)
            ·rw [if_pos c29] at H
             have c29b0 : decide ((((rd_T84 l0_0 a1_1).f1).length : Int) ≤ (rd l1_2 x33_2)) = true := decide_eq_true c29; clear c29; obtain rfl := Option.some.inj H; have p138 : 0 ≤ (x33_2 : Int) := of_decide_eq_true (by first | (with_reducible assumption) | assumption); have q138 : x33_2 < (l1_2.length : Int) := of_decide_eq_true (by first | (with_reducible assumption) | assumption); obtain ⟨ad138, e138, hx138_0⟩ := Kd.at_int HR1_2.out x33_2 p138 q138
             cases e138
             replace hx138_0 := (HB.out.cell (World.block_lt_of_cell? w _ hx138_0)).trans hx138_0; replace p138 := eq_true p138; have p138D := p138; try simp only [List.length_drop, List.length_take] at p138D
             replace q138 := eq_true q138; have q138D := q138; try simp only [List.length_drop, List.length_take] at q138D
             have hnb30 := NB136_137.out; have hnc30 := NB137_136.out; have hcz31_0 := (blk_cell BK136.out 0).trans rfl; have hcz31_1 := (blk_cell BK136.out 1).trans rfl; have hfz31_0 := blk_frozen BK136.out 0; have hfz31_1 := blk_frozen BK136.out 1; have hcz32_0 := (blk_cell BK137.out 0).trans rfl; have hcz32_1 := (blk_cell BK137.out 1).trans rfl; have hcz32_2 := (blk_cell BK137.out 2).trans rfl; have hcz32_3 := (blk_cell BK137.out 3).trans rfl; have hcz32_4 := (blk_cell BK137.out 4).trans rfl; have hcz32_5 := (blk_cell BK137.out 5).trans rfl; have hcz32_6 := (blk_cell BK137.out 6).trans rfl; have hfz32_0 := blk_frozen BK137.out 0; have hfz32_1 := blk_frozen BK137.out 1; have hfz32_2 := blk_frozen BK137.out 2; have hfz32_3 := blk_frozen BK137.out 3; have hfz32_4 := blk_frozen BK137.out 4; have hfz32_5 := blk_frozen BK137.out 5; have hfz32_6 := blk_frozen BK137.out 6; have p139 : 0 ≤ (a1_1 : Int) := of_decide_eq_true (by first | (with_reducible assumption) | assumption); have q139 : a1_1 < (l0_0.length : Int) := of_decide_eq_true (by first | (with_reducible assumption) | assumption); obtain ⟨ad139, A139_1, c139_1, e139, hx139_0, hx139_1, hx139_2, hx139_3, hx139_4, hl139_1, hi139_1⟩ := at_T84 HR0_0.out a1_1 p139 q139
             cases e139
             replace hx139_0 := (HB.out.cell (World.block_lt_of_cell? w _ hx139_0)).trans hx139_0; replace hx139_1 := (HB.out.cell (World.block_lt_of_cell? w _ hx139_1)).trans hx139_1; replace hx139_2 := (HB.out.cell (World.block_lt_of_cell? w _ hx139_2)).trans hx139_2; replace hx139_3 := (HB.out.cell (World.block_lt_of_cell? w _ hx139_3)).trans hx139_3; replace hx139_4 := (HB.out.cell (World.block_lt_of_cell? w _ hx139_4)).trans hx139_4; have HR139_1 := Aside0.mk hi139_1; have HC139_1 := Aside0.mk hl139_1; clear hi139_1 hl139_1; replace p139 := eq_true p139; have p139D := p139; try simp only [List.length_drop, List.length_take] at p139D
             replace q139 := eq_true q139; have q139D := q139; try simp only [List.length_drop, List.length_take] at q139D
             go_wp2
             go_ret
             exact ⟨by first | rfl | (simp [errW_none, errW_some] <;> rfl) | (simp [*, errW_none, errW_some] <;> rfl), by repeat (first | (with_reducible first | exact HB.out | apply below_alloc | apply pw_below_drewN | apply below_drew1 | refine below_set ?_ GE136.out | refine below_set ?_ GE137.out) | exact HB.out)⟩
            ·rw [if_neg c29] at H
             have c29b0 : decide ((((rd_T84 l0_0 a1_1).f1).length : Int) ≤ (rd l1_2 x33_2)) = false := decide_eq_false c29; clear c29; have c33b0 := eq_true (of_decide_eq_true (by first | (with_reducible assumption) | assumption) : 0 ≤ x33_2)
             by_cases c34 : x33_2 ≤ (l1_2.length : Int)
             ·rw [if_pos c34] at H
              have c34b0 := eq_true c34; have c34b1 : decide (x33_2 ≤ (l1_2.length : Int)) = true := decide_eq_true c34; clear c34; replace H := Option.bind_eq_some_iff.mp H; obtain ⟨t141, A350, H⟩ := H; replace H : (if t141 = true then (some false) else (schema_index.l0 k2 l1_2 (l1_2.length : Int) (wrap64 (x33_2 + 1)) l0_0 l0_1 a1_0 a1_1 l1_2 a1_3 a1_4 a1_5 l1_6)) = some r := H; have A35 := Aside0.mk A350; clear A350
              by_cases c36 : t141 = true
              ·subst c36
               have H1 : (some false) = some r := by rw [if_pos rfl] at H; exact H
               clear H; have H := H1; clear H1; obtain rfl := Option.some.inj H; have p138 : 0 ≤ (x33_2 : Int) := of_decide_eq_true (by first | (with_reducible assumption) | assumption); have q138 : x33_2 < (l1_2.length : Int) := of_decide_eq_true (by first | (with_reducible assumption) | assumption); obtain ⟨ad138, e138, hx138_0⟩ := Kd.at_int HR1_2.out x33_2 p138 q138
               cases e138
               replace hx138_0 := (HB.out.cell (World.block_lt_of_cell? w _ hx138_0)).trans hx138_0; replace p138 := eq_true p138; have p138D := p138; try simp only [List.length_drop, List.length_take] at p138D
               replace q138 := eq_true q138; have q138D := q138; try simp only [List.length_drop, List.length_take] at q138D
               have hnb37 := NB136_137.out; have hnc37 := NB137_136.out; have hcz38_0 := (blk_cell BK136.out 0).trans rfl; have hcz38_1 := (blk_cell BK136.out 1).trans rfl; have hfz38_0 := blk_frozen BK136.out 0; have hfz38_1 := blk_frozen BK136.out 1; have hcz39_0 := (blk_cell BK137.out 0).trans rfl; have hcz39_1 := (blk_cell BK137.out 1).trans rfl; have hcz39_2 := (blk_cell BK137.out 2).trans rfl; have hcz39_3 := (blk_cell BK137.out 3).trans rfl; have hcz39_4 := (blk_cell BK137.out 4).trans rfl; have hcz39_5 := (blk_cell BK137.out 5).trans rfl; have hcz39_6 := (blk_cell BK137.out 6).trans rfl; have hfz39_0 := blk_frozen BK137.out 0; have hfz39_1 := blk_frozen BK137.out 1; have hfz39_2 := blk_frozen BK137.out 2; have hfz39_3 := blk_frozen BK137.out 3; have hfz39_4 := blk_frozen BK137.out 4; have hfz39_5 := blk_frozen BK137.out 5; have hfz39_6 := blk_frozen BK137.out 6; have p139 : 0 ≤ (a1_1 : Int) := of_decide_eq_true (by first | (with_reducible assumption) | assumption); have q139 : a1_1 < (l0_0.length : Int) := of_decide_eq_true (by first | (with_reducible assumption) | assumption); obtain ⟨ad139, A139_1, c139_1, e139, hx139_0, hx139_1, hx139_2, hx139_3, hx139_4, hl139_1, hi139_1⟩ := at_T84 HR0_0.out a1_1 p139 q139
               cases e139
               replace hx139_0 := (HB.out.cell (World.block_lt_of_cell? w _ hx139_0)).trans hx139_0; replace hx139_1 := (HB.out.cell (World.block_lt_of_cell? w _ hx139_1)).trans hx139_1; replace hx139_2 := (HB.out.cell (World.block_lt_of_cell? w _ hx139_2)).trans hx139_2; replace hx139_3 := (HB.out.cell (World.block_lt_of_cell? w _ hx139_3)).trans hx139_3; replace hx139_4 := (HB.out.cell (World.block_lt_of_cell? w _ hx139_4)).trans hx139_4; have HR139_1 := Aside0.mk hi139_1; have HC139_1 := Aside0.mk hl139_1; clear hi139_1 hl139_1; replace p139 := eq_true p139; have p139D := p139; try simp only [List.length_drop, List.length_take] at p139D
               replace q139 := eq_true q139; have q139D := q139; try simp only [List.length_drop, List.length_take] at q139D
               obtain ⟨i040, hi040, _, hsz40, _⟩ := info_parts info3; obtain ⟨hcut40, hA40, hC40⟩ := print_take_of (P := Try.prog) (Value.int .i64) 0 74 3 .i64 Try.underlying74 hi040 hsz40 (some ad138) c1_2 l1_2 x33_2 (of_decide_eq_true (by first | (with_reducible assumption) | assumption)) (of_decide_eq_true (by first | (with_reducible assumption) | assumption)) HC1_2.out; have HR140 := Aside0.mk (Kd.C_of_reads (h1 := fun _ => rfl) (hA40 _ (Kd.reads_of_C HR1_2.out))); have HC140 := Aside0.mk hC40; clear hA40 hC40 hi040 hsz40
               go_wp2_with (first | (go_at_call 98; have hq_ : (x33_2 : Int) < (l1_2.length : Int) := of_decide_eq_true (by first | (with_reducible assumption) | assumption); have hz_ : (l1_2.take (x33_2 : Int).toNat).length = (x33_2 : Int).toNat := (by rw [List.length_take]; omega); rw [← hz_]; clear hz_ hq_; (with_reducible refine (slices_Contains_int_int.calls k2 _ _ (l1_2.take (x33_2 : Int).toNat) (rd l1_2 x33_2) true _ ?side1 ?side2 A35.out).mono ?_); (case side1 => repeat (first | exact (Kd.C_below HR140.out HB.out) | (with_reducible refine Kd.C_alloc ?_ _) | (with_reducible refine Kd.C_drewN ?_ _) | (with_reducible refine Kd.C_drew ?_))); (case side2 => exact HC140.out); rintro e w' ⟨rfl, ⟨nd, rfl⟩⟩))
               go_ret
               exact ⟨by first | rfl | (simp [errW_none, errW_some] <;> rfl) | (simp [*, errW_none, errW_some] <;> rfl), by repeat (first | (with_reducible first | exact HB.out | apply below_alloc | apply pw_below_drewN | apply below_drew1 | refine below_set ?_ GE136.out | refine below_set ?_ GE137.out) | exact HB.out)⟩
              ·replace c36 := Bool.eq_false_iff.mpr c36
               subst c36; have H1 : (schema_index.l0 k2 l1_2 (l1_2.length : Int) (wrap64 (x33_2 + 1)) l0_0 l0_1 a1_0 a1_1 l1_2 a1_3 a1_4 a1_5 l1_6) = some r := by rw [if_neg (show ¬ (false = true) by decide)] at H; exact H
               clear H; have H := H1; clear H1; have H' := Aside0.mk H; clear H; have p138 : 0 ≤ (x33_2 : Int) := of_decide_eq_true (by first | (with_reducible assumption) | assumption); have q138 : x33_2 < (l1_2.length : Int) := of_decide_eq_true (by first | (with_reducible assumption) | assumption); obtain ⟨ad138, e138, hx138_0⟩ := Kd.at_int HR1_2.out x33_2 p138 q138
               cases e138
               replace hx138_0 := (HB.out.cell (World.block_lt_of_cell? w _ hx138_0)).trans hx138_0; replace p138 := eq_true p138; have p138D := p138; try simp only [List.length_drop, List.length_take] at p138D
               replace q138 := eq_true q138; have q138D := q138; try simp only [List.length_drop, List.length_take] at q138D
               have hnb41 := NB136_137.out; have hnc41 := NB137_136.out; have hcz42_0 := (blk_cell BK136.out 0).trans rfl; have hcz42_1 := (blk_cell BK136.out 1).trans rfl; have hfz42_0 := blk_frozen BK136.out 0; have hfz42_1 := blk_frozen BK136.out 1; have hcz43_0 := (blk_cell BK137.out 0).trans rfl; have hcz43_1 := (blk_cell BK137.out 1).trans rfl; have hcz43_2 := (blk_cell BK137.out 2).trans rfl; have hcz43_3 := (blk_cell BK137.out 3).trans rfl; have hcz43_4 := (blk_cell BK137.out 4).trans rfl; have hcz43_5 := (blk_cell BK137.out 5).trans rfl; have hcz43_6 := (blk_cell BK137.out 6).trans rfl; have hfz43_0 := blk_frozen BK137.out 0; have hfz43_1 := blk_frozen BK137.out 1; have hfz43_2 := blk_frozen BK137.out 2; have hfz43_3 := blk_frozen BK137.out 3; have hfz43_4 := blk_frozen BK137.out 4; have hfz43_5 := blk_frozen BK137.out 5; have hfz43_6 := blk_frozen BK137.out 6; have p139 : 0 ≤ (a1_1 : Int) := of_decide_eq_true (by first | (with_reducible assumption) | assumption); have q139 : a1_1 < (l0_0.length : Int) := of_decide_eq_true (by first | (with_reducible assumption) | assumption); obtain ⟨ad139, A139_1, c139_1, e139, hx139_0, hx139_1, hx139_2, hx139_3, hx139_4, hl139_1, hi139_1⟩ := at_T84 HR0_0.out a1_1 p139 q139
               cases e139
               replace hx139_0 := (HB.out.cell (World.block_lt_of_cell? w _ hx139_0)).trans hx139_0; replace hx139_1 := (HB.out.cell (World.block_lt_of_cell? w _ hx139_1)).trans hx139_1; replace hx139_2 := (HB.out.cell (World.block_lt_of_cell? w _ hx139_2)).trans hx139_2; replace hx139_3 := (HB.out.cell (World.block_lt_of_cell? w _ hx139_3)).trans hx139_3; replace hx139_4 := (HB.out.cell (World.block_lt_of_cell? w _ hx139_4)).trans hx139_4; have HR139_1 := Aside0.mk hi139_1; have HC139_1 := Aside0.mk hl139_1; clear hi139_1 hl139_1; replace p139 := eq_true p139; have p139D := p139; try simp only [List.length_drop, List.length_take] at p139D
               replace q139 := eq_true q139; have q139D := q139; try simp only [List.length_drop, List.length_take] at q139D
               obtain ⟨i044, hi044, _, hsz44, _⟩ := info_parts info3; obtain ⟨hcut44, hA44, hC44⟩ := print_take_of (P := Try.prog) (Value.int .i64) 0 74 3 .i64 Try.underlying74 hi044 hsz44 (some ad138) c1_2 l1_2 x33_2 (of_decide_eq_true (by first | (with_reducible assumption) | assumption)) (of_decide_eq_true (by first | (with_reducible assumption) | assumption)) HC1_2.out; have HR140 := Aside0.mk (Kd.C_of_reads (h1 := fun _ => rfl) (hA44 _ (Kd.reads_of_C HR1_2.out))); have HC140 := Aside0.mk hC44; clear hA44 hC44 hi044 hsz44
               go_wp2_with (first | (go_at_call 98; have hq_ : (x33_2 : Int) < (l1_2.length : Int) := of_decide_eq_true (by first | (with_reducible assumption) | assumption); have hz_ : (l1_2.take (x33_2 : Int).toNat).length = (x33_2 : Int).toNat := (by rw [List.length_take]; omega); rw [← hz_]; clear hz_ hq_; (with_reducible refine (slices_Contains_int_int.calls k2 _ _ (l1_2.take (x33_2 : Int).toNat) (rd l1_2 x33_2) false _ ?side1 ?side2 A35.out).mono ?_); (case side1 => repeat (first | exact (Kd.C_below HR140.out HB.out) | (with_reducible refine Kd.C_alloc ?_ _) | (with_reducible refine Kd.C_drewN ?_ _) | (with_reducible refine Kd.C_drew ?_))); (case side2 => exact HC140.out); rintro e w' ⟨rfl, ⟨nd, rfl⟩⟩))
               go_roundg k2
               case measure => have := HJ2.out; have := HK2.out; omega
               case rel => exact ⟨(wrap64 (x33_2 + 1)), (by first | rfl | (simp; done) | (simp [*]; done)), H', ⟨by have := HJ2.out; have := HK2.out; omega⟩, ⟨by (with_reducible repeat (first | refine blk_drewN ?_ _ | refine blk_drew ?_ | refine blk_alloc ?_ _)); exact BK136.out⟩, ⟨by (with_reducible repeat (first | refine blk_drewN ?_ _ | refine blk_drew ?_ | refine blk_alloc ?_ _)); exact BK137.out⟩, ⟨by repeat (first | (with_reducible first | exact HB.out | apply below_alloc | apply pw_below_drewN | apply below_drew1 | refine below_set ?_ GE136.out | refine below_set ?_ GE137.out) | exact HB.out)⟩⟩
             ·rw [if_neg c34] at H
              exact absurd H (by simp)
           ·rw [if_neg c28] at H
            exact absurd H (by simp)
          ·rw [if_neg c27] at H
           exact absurd H (by simp)
        ·rw [if_neg c25] at H
         exact absurd H (by simp)
       ·rw [if_neg c24] at H
        exact absurd H (by simp)
      ·rw [if_neg c23] at H
       have c23b0 : decide (x33_2 < (l1_2.length : Int)) = false := decide_eq_false c23; clear c23
       by_cases c45 : (l1_6.length : Int) = (l1_2.length : Int)
       ·rw [if_pos c45] at H
        have c45b0 : ((l1_6.length : Int) == (l1_2.length : Int)) = true := beq_iff_eq.mpr c45; have c45b1 : ((l1_6.length : Int) != (l1_2.length : Int)) = false := bne_eq_false_iff_eq.mpr c45; have c45b2 : (l1_6.length == l1_2.length) = true := by first | simpa using c45 | (simp at c45 ⊢; omega)
        clear c45; replace H := Option.bind_eq_some_iff.mp H; obtain ⟨t142, A460, H⟩ := H; replace H : (if t142 = true then ((schema_right.f k2 (([a1_4, a1_5, wrap64 (a1_3)] : List Int))).bind fun t146 => (some t146)) else (some false)) = some r := H; have A46 := Aside0.mk A460; clear A460
        by_cases c47 : t142 = true
        ·subst c47
         have H1 : ((schema_right.f k2 (([a1_4, a1_5, wrap64 (a1_3)] : List Int))).bind fun t146 => (some t146)) = some r := by rw [if_pos rfl] at H; exact H
         clear H; have H := H1; clear H1; obtain ⟨y143, hy143⟩ : ∃ y_ : List Int, y_ = (([a1_4, a1_5, wrap64 (a1_3)] : List Int)) := ⟨_, rfl⟩; replace H : ((schema_right.f k2 y143).bind fun t146 => (some t146)) = some r := by first | (rw [hy143]; with_reducible exact H) | (have H2_ := (Option.bind_some _ _).symm.trans H; rw [hy143]; with_reducible exact H2_) | (have H2_ := (Option.bind_some _ _).symm.trans H; with_reducible exact H2_) | with_reducible exact H | (rw [hy143]; exact H) | exact H
         have Ny143 := Aside0.mk hy143; clear hy143; replace H := Option.bind_eq_some_iff.mp H; obtain ⟨t146, A480, H⟩ := H; replace H : (some t146) = some r := H; have A48 := Aside0.mk A480; clear A480; obtain rfl := Option.some.inj H; have hnb49 := NB137_136.out; have hnc49 := NB136_137.out; have hcz50_0 := (blk_cell BK137.out 0).trans rfl; have hcz50_1 := (blk_cell BK137.out 1).trans rfl; have hcz50_2 := (blk_cell BK137.out 2).trans rfl; have hcz50_3 := (blk_cell BK137.out 3).trans rfl; have hcz50_4 := (blk_cell BK137.out 4).trans rfl; have hcz50_5 := (blk_cell BK137.out 5).trans rfl; have hcz50_6 := (blk_cell BK137.out 6).trans rfl; have hfz50_0 := blk_frozen BK137.out 0; have hfz50_1 := blk_frozen BK137.out 1; have hfz50_2 := blk_frozen BK137.out 2; have hfz50_3 := blk_frozen BK137.out 3; have hfz50_4 := blk_frozen BK137.out 4; have hfz50_5 := blk_frozen BK137.out 5; have hfz50_6 := blk_frozen BK137.out 6
         go_wp2_with (first | (go_at_call 97; (with_reducible refine (schema_right.calls k2 _ _ l1_6 true _ ?side1 ?side2 A46.out).mono ?_); (case side1 => repeat (first | exact (Kd.C_below HR1_6.out HB.out) | (with_reducible refine Kd.C_alloc ?_ _) | (with_reducible refine Kd.C_drewN ?_ _) | (with_reducible refine Kd.C_drew ?_))); (case side2 => exact HC1_6.out); rintro e w' ⟨rfl, ⟨nd, rfl⟩⟩) | ((with_reducible refine gate_dst (N := 81) rfl ?_); (try (refine gate_guard (by rfl) ?_; dsimp only)); refine Kd.R_lit (Kd.int .i64) _ 3 ?hg (N := 81) ?hd (xs := ([a1_4, a1_5, wrap64 (a1_3)] : List Int)) (inner := [.int .i64 a1_4, .int .i64 a1_5, .int .i64 (wrap64 (a1_3))]) (ok := fun _ => True) (okp := fun _ => True) ?hr ?hp (fun _ hk => hk) trivial (Below.refl _ _) (Nat.le_refl _) (by simp) ?_; (case hd => rfl); (case hg => rfl); (case hr => first | (go_simp; done) | (go_simp; rfl)); (case hp => exact (Reps.one (show Kd.M (Kd.int .i64) _ _ _ a1_4 [.int .i64 a1_4] from rfl) (Reps.one (show Kd.M (Kd.int .i64) _ _ _ a1_5 [.int .i64 a1_5] from rfl) (Reps.one (show Kd.M (Kd.int .i64) _ _ _ (wrap64 (a1_3)) [.int .i64 (wrap64 (a1_3))] from rfl) (Reps.none _ _))))); intro v144 w51 ho52 hb hg_ hnew_; clear hg_ hnew_; (first | rw [← Ny143.out] at ho52 | (simp only [Int.reduceToNat] at ho52; rw [← Ny143.out] at ho52)); have n0_ := Aside0.mk (Kd.R_lower ho52 (below_size (by repeat (first | (with_reducible first | exact HB.out | apply below_alloc | apply pw_below_drewN | apply below_drew1 | refine below_set ?_ GE136.out | refine below_set ?_ GE137.out) | exact HB.out)))); have n1_ := Aside0.mk (blk_below (g := gb136) (o := .cells #[.slice A0_0 l0_0.length c0_0, .slice A0_1 l0_1.length c0_1] 80 (0, 0)) (by (with_reducible repeat (first | refine blk_drewN ?_ _ | refine blk_drew ?_ | refine blk_alloc ?_ _)); exact BK136.out) hb); have n2_ := Aside0.mk (blk_below (g := gb137) (o := .cells #[.string a1_0, .int .i64 a1_1, .slice A1_2 l1_2.length c1_2, .int .u32 a1_3, .int .i64 a1_4, .int .i64 a1_5, .slice A1_6 l1_6.length c1_6] 135 (0, 0)) (by (with_reducible repeat (first | refine blk_drewN ?_ _ | refine blk_drew ?_ | refine blk_alloc ?_ _)); exact BK137.out) hb); have n3_ := Aside0.mk (below_step (by repeat (first | (with_reducible first | exact HB.out | apply below_alloc | apply pw_below_drewN | apply below_drew1 | refine below_set ?_ GE136.out | refine below_set ?_ GE137.out) | exact HB.out)) hb); clear BK136; clear BK137; clear HB; have HO145 := n0_; have BK136 := n1_; have BK137 := n2_; have HB := n3_; clear n0_ n1_ n2_ n3_; clear hb ho52; obtain ⟨Ao53, co53, eo53⟩ := Kd.R_slice HO145.out; subst eo53) | (go_at_call 97; (with_reducible refine (schema_right.calls k2 _ _ y143 t146 _ ?side1 ?side2 A48.out).mono ?_); (case side1 => repeat (first | exact (Kd.R_reads' HO145.out).2.2 | (with_reducible refine Kd.C_alloc ?_ _) | (with_reducible refine Kd.C_drewN ?_ _) | (with_reducible refine Kd.C_drew ?_))); (case side2 => exact (Kd.R_reads' HO145.out).2.1); rintro e w' ⟨rfl, ⟨nd, rfl⟩⟩))
         go_ret
         exact ⟨by first | rfl | (simp [errW_none, errW_some] <;> rfl) | (simp [*, errW_none, errW_some] <;> rfl), by repeat (first | (with_reducible first | exact HB.out | apply below_alloc | apply pw_below_drewN | apply below_drew1 | refine below_set ?_ GE136.out | refine below_set ?_ GE137.out) | exact HB.out)⟩
        ·replace c47 := Bool.eq_false_iff.mpr c47
         subst c47; have H1 : (some false) = some r := by rw [if_neg (show ¬ (false = true) by decide)] at H; exact H
         clear H; have H := H1; clear H1; obtain rfl := Option.some.inj H; have hnb54 := NB137_136.out; have hnc54 := NB136_137.out; have hcz55_0 := (blk_cell BK137.out 0).trans rfl; have hcz55_1 := (blk_cell BK137.out 1).trans rfl; have hcz55_2 := (blk_cell BK137.out 2).trans rfl; have hcz55_3 := (blk_cell BK137.out 3).trans rfl; have hcz55_4 := (blk_cell BK137.out 4).trans rfl; have hcz55_5 := (blk_cell BK137.out 5).trans rfl; have hcz55_6 := (blk_cell BK137.out 6).trans rfl; have hfz55_0 := blk_frozen BK137.out 0; have hfz55_1 := blk_frozen BK137.out 1; have hfz55_2 := blk_frozen BK137.out 2; have hfz55_3 := blk_frozen BK137.out 3; have hfz55_4 := blk_frozen BK137.out 4; have hfz55_5 := blk_frozen BK137.out 5; have hfz55_6 := blk_frozen BK137.out 6
         go_wp2_with (first | (go_at_call 97; (with_reducible refine (schema_right.calls k2 _ _ l1_6 false _ ?side1 ?side2 A46.out).mono ?_); (case side1 => repeat (first | exact (Kd.C_below HR1_6.out HB.out) | (with_reducible refine Kd.C_alloc ?_ _) | (with_reducible refine Kd.C_drewN ?_ _) | (with_reducible refine Kd.C_drew ?_))); (case side2 => exact HC1_6.out); rintro e w' ⟨rfl, ⟨nd, rfl⟩⟩))
         go_ret
         exact ⟨by first | rfl | (simp [errW_none, errW_some] <;> rfl) | (simp [*, errW_none, errW_some] <;> rfl), by repeat (first | (with_reducible first | exact HB.out | apply below_alloc | apply pw_below_drewN | apply below_drew1 | refine below_set ?_ GE136.out | refine below_set ?_ GE137.out) | exact HB.out)⟩
       ·rw [if_neg c45] at H
        have c45b0 : ((l1_6.length : Int) == (l1_2.length : Int)) = false := beq_eq_false_iff_ne.mpr c45; have c45b1 : ((l1_6.length : Int) != (l1_2.length : Int)) = true := bne_iff_ne.mpr c45; have c45b2 : (l1_6.length == l1_2.length) = false := by first | simpa using c45 | (simp at c45 ⊢; omega)
        obtain rfl := Option.some.inj H; have hnb56 := NB137_136.out; have hnc56 := NB136_137.out; have hcz57_0 := (blk_cell BK137.out 0).trans rfl; have hcz57_1 := (blk_cell BK137.out 1).trans rfl; have hcz57_2 := (blk_cell BK137.out 2).trans rfl; have hcz57_3 := (blk_cell BK137.out 3).trans rfl; have hcz57_4 := (blk_cell BK137.out 4).trans rfl; have hcz57_5 := (blk_cell BK137.out 5).trans rfl; have hcz57_6 := (blk_cell BK137.out 6).trans rfl; have hfz57_0 := blk_frozen BK137.out 0; have hfz57_1 := blk_frozen BK137.out 1; have hfz57_2 := blk_frozen BK137.out 2; have hfz57_3 := blk_frozen BK137.out 3; have hfz57_4 := blk_frozen BK137.out 4; have hfz57_5 := blk_frozen BK137.out 5; have hfz57_6 := blk_frozen BK137.out 6
        go_wp2
        go_ret
        exact ⟨by first | rfl | (simp [errW_none, errW_some] <;> rfl) | (simp [*, errW_none, errW_some] <;> rfl), by repeat (first | (with_reducible first | exact HB.out | apply below_alloc | apply pw_below_drewN | apply below_drew1 | refine below_set ?_ GE136.out | refine below_set ?_ GE137.out) | exact HB.out)⟩

end Go.Proofs.Ytpfegfkniilobaa.XSchema
