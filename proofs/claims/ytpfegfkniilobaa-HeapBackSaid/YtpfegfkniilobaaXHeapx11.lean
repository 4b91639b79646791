-- Written by this session's own program (wip/own_print.py) over the kit's print, with this session's hand-proved contracts in their places; Lean checks it.
import Derived.Test.YtpfegfkniilobaaXHeapx0
import Derived.Test.YtpfegfkniilobaaXHeapx9
import Derived.Test.YtpfegfkniilobaaXHeapx10
namespace Go.Proofs.Ytpfegfkniilobaa.XHeap
open Go.RowKit Go.Proofs.YtpfegfkniilobaaW.PrintWords Go.Proofs.YtpfegfkniilobaaW.PrintLast Go.Proofs.YtpfegfkniilobaaW.PrintMore
attribute [local go_sem] max2_int min2_int max_two min_two max_three min_three max_four min_four   -- for this text's walks alone
set_option linter.unusedVariables false
set_option linter.unusedSimpArgs false

/-! ### rowlockref08_Read: function 91 -/
mutual
def rowlockref08_Read.j0 : Nat → ByteArray → Bool → Int → Int → Int → Option (Int × List ByteArray × Bool)
 | 0, _, _, _, _, _ => none
 | k + 1, x0, x24, x317000, x317001, x317002 => if x24 = true then (some (0, ([] : List ByteArray), false)) else (rowlockref08_Read.l0 k x0 512 0 x317000 x317001 x317002 x317002 ([] : List ByteArray))
def rowlockref08_Read.l0 : Nat → ByteArray → Int → Int → Int → Int → Int → Int → List ByteArray → Option (Int × List ByteArray × Bool)
 | 0, _, _, _, _, _, _, _, _ => none
 | k + 1, x0, x7, x8, x317000, x317001, x317002, x318000, x318001 => if x8 < (wrap64 (x317001)) then (if (wrap64 ((wrap64 (8 + (wrap64 (4 * x8)))) + 4)) > x7 then (some (0, ([] : List ByteArray), false)) else (if 0 ≤ (wrap64 (8 + (wrap64 (4 * x8)))) then (if (wrap64 (8 + (wrap64 (4 * x8)))) ≤ (wrap64 ((wrap64 (8 + (wrap64 (4 * x8)))) + 2)) then (if (wrap64 ((wrap64 (8 + (wrap64 (4 * x8)))) + 2)) ≤ (x0.size : Int) then ((rowlockref06_Value.f k (x0.extract ((wrap64 (8 + (wrap64 (4 * x8)))) : Int).toNat ((wrap64 ((wrap64 (8 + (wrap64 (4 * x8)))) + 2)) : Int).toNat)).bind fun t318 => (if 0 ≤ (wrap64 ((wrap64 (8 + (wrap64 (4 * x8)))) + 2)) then (if (wrap64 ((wrap64 (8 + (wrap64 (4 * x8)))) + 2)) ≤ (wrap64 ((wrap64 (8 + (wrap64 (4 * x8)))) + 4)) then (if (wrap64 ((wrap64 (8 + (wrap64 (4 * x8)))) + 4)) ≤ (x0.size : Int) then ((rowlockref06_Value.f k (x0.extract ((wrap64 ((wrap64 (8 + (wrap64 (4 * x8)))) + 2)) : Int).toNat ((wrap64 ((wrap64 (8 + (wrap64 (4 * x8)))) + 4)) : Int).toNat)).bind fun t319 => (if (wrap64 (t319)) = 0 then (some (0, ([] : List ByteArray), false)) else (if (wrap64 ((wrap64 (t318)) + (wrap64 (t319)))) = x7 then (if (wrap64 (t318)) < (wrap64 (8 + (wrap64 (4 * (wrap64 (x317001)))))) then (some (0, ([] : List ByteArray), false)) else (if 0 ≤ (wrap64 (t318)) then (if (wrap64 (t318)) ≤ x7 then (if x7 ≤ (x0.size : Int) then (if x318001.length < 8796093022208 then (rowlockref08_Read.l0 k x0 (wrap64 (t318)) (wrap64 (x8 + 1)) x317000 x317001 x317002 x318000 (x318001 ++ [x0.extract ((wrap64 (t318)) : Int).toNat (x7 : Int).toNat])) else (none)) else (none)) else (none)) else (none))) else (some (0, ([] : List ByteArray), false))))) else (none)) else (none)) else (none))) else (none)) else (none)) else (none))) else (rowlockref08_Read.l1 k x0 x7 (wrap64 (8 + (wrap64 (4 * (wrap64 (x317001)))))) x318000 x318001)
def rowlockref08_Read.l1 : Nat → ByteArray → Int → Int → Int → List ByteArray → Option (Int × List ByteArray × Bool)
 | 0, _, _, _, _, _ => none
 | k + 1, x0, x7, x12, x318000, x318001 => if x12 < x7 then (if 0 ≤ x12 then (if x12 < (x0.size : Int) then (if (bt x0 x12) = 0 then (rowlockref08_Read.l1 k x0 x7 (wrap64 (x12 + 1)) x318000 x318001) else (some (0, ([] : List ByteArray), false))) else (none)) else (none)) else (some (x318000, x318001, true))
end
def rowlockref08_Read.f (k : Nat) (a0 : ByteArray) : Option (Int × List ByteArray × Bool) := (rowlockref06_Get.f k a0).bind fun bt312 => (if bt312.2.2.2 = true then (rowlockref08_Read.j0 k a0 (bt312.1 != 1) bt312.1 bt312.2.1 bt312.2.2.1) else (rowlockref08_Read.j0 k a0 true bt312.1 bt312.2.1 bt312.2.2.1))
def rowlockref08_Read.T16 : Bool × List (List Nat × List Nat) := (true, [([], []), ([0], [0]), ([], []), ([], []), ([], []), ([2, 3, 4], [2, 3, 4]), ([5], [5]), ([1, 6], [1, 6]), ([0, 1, 2, 3, 4, 5, 6, 7], []), ([8, 7, 7, 0, 1, 2, 3, 4, 5, 6, 7], [7, 8])])
def rowlockref08_Read.B16 : List Nat := [0, 1, 0, 0, 0, 28, 60, 127, 255, 511]
theorem rowlockref08_Read.tab16 : rtab .any (opsOf Try.f91 16) = rowlockref08_Read.T16 := by kernel_rfl
theorem rowlockref08_Read.bits16 : waitsOk rowlockref08_Read.T16.2 rowlockref08_Read.B16 = true := by kernel_rfl
set_option maxHeartbeats 8000000 in
set_option maxRecDepth 100000 in
theorem rowlockref08_Read.calls (k : Nat) (a0 : ByteArray) (r1 : Int) (r2 : List ByteArray) (r3 : Bool) (w : World) (h : rowlockref08_Read.f k a0 = some (r1, r2, r3)) :
  Calls Try.prog 91 #[.string a0] w fun e w' => ∃ v1_ : Value, e = .returned (.tuple #[.agg #[.int .u32 r1, v1_], .bool r3]) ∧ Kd.R Kd.string 9 w' w.heap.size (fun _ => True) v1_ r2 ∧ Below w.heap.size w w' := by
 have hu41 := Try.underlying41
 have hu130 := Try.underlying130
 have HB := Aside0.mk (Below.refl w.heap.size w)
 have H : ((rowlockref06_Get.f k a0).bind fun bt312 => (if bt312.2.2.2 = true then (rowlockref08_Read.j0 k a0 (bt312.1 != 1) bt312.1 bt312.2.1 bt312.2.2.1) else (rowlockref08_Read.j0 k a0 true bt312.1 bt312.2.1 bt312.2.2.1))) = some (r1, r2, r3) := h
 clear h
 replace H := Option.bind_eq_some_iff.mp H
 obtain ⟨⟨t312, t313, t314, t315⟩, A20, H⟩ := H
 replace H : (if t315 = true then (rowlockref08_Read.j0 k a0 (t312 != 1) t312 t313 t314) else (rowlockref08_Read.j0 k a0 true t312 t313 t314)) = some (r1, r2, r3) := H
 have A2 := Aside0.mk A20
 clear A20
 have HC3 := Aside0.mk H
 clear H
 go_enter Try.func91, Try.ntmps91
 go_upto_region 2 with (first | ((with_reducible refine gate_dst (N := 2) rfl ?_); refine box_event ?hg (N := 2) ?hd (cs := #[.int .u32 0, .slice none 0 0]) (t := 41) ?hr ?_; (case hd => rfl); (case hg => rfl); (case hr => first | (go_simp; done) | (go_simp; rfl)); intro gb311 hg w4 hbox hb; have n0_ := Aside0.mk (below_step (by repeat (first | (with_reducible first | exact HB.out | apply below_alloc | apply pw_below_drewN | apply below_drew1) | exact HB.out)) hb); have n1_ := Aside0.mk (hbox); have n2_ := Aside0.mk ((by rw [hg]; exact (below_size (by repeat (first | (with_reducible first | exact HB.out | apply below_alloc | apply pw_below_drewN | apply below_drew1) | exact HB.out))) : w.heap.size ≤ gb311)); have n3_ := Aside0.mk ((by rw [hg]; exact (below_size (by repeat (first | (with_reducible first | exact HB.out | apply below_alloc | apply pw_below_drewN | apply below_drew1) | exact HB.out))) : w.heap.size ≤ gb311)); clear HB; have HB := n0_; have BK311 := n1_; have GW311 := n2_; have GE311 := n3_; clear n0_ n1_ n2_ n3_; clear hb hbox hg) | ((with_reducible refine gate_callee (f := 112) rfl ?_); refine goesL_ (some 15) rfl rfl Try.func112 (by kernel_rfl) rfl #[.string a0] rfl (by (try simp only [List.map_toArray, List.map_cons, List.map_nil]); first | done | rfl | (simp only [List.length_drop, List.length_take]; rfl)) ?_; (with_reducible refine (rowlockref06_Get.calls k a0 t312 t313 t314 t315 _ A2.out).mono ?_); rintro e w5 ⟨rfl, hb⟩; refine ⟨_, rfl, ?_⟩; have n0_ := Aside0.mk (blk_below (g := gb311) (o := .cells #[.int .u32 0, .slice none 0 0] 41 (0, 0)) (by (with_reducible repeat (first | refine blk_drewN ?_ _ | refine blk_drew ?_ | refine blk_alloc ?_ _)); exact BK311.out) hb); have n1_ := Aside0.mk (below_step (by repeat (first | (with_reducible first | exact HB.out | apply below_alloc | apply pw_below_drewN | apply below_drew1 | refine below_set ?_ GE311.out) | exact HB.out)) hb); clear BK311; clear HB; have BK311 := n0_; have HB := n1_; clear n0_ n1_; (try clear hb); (try clear hb2); (try clear hk); (try clear hi)) | ((with_reducible refine gate_dst (N := 4) rfl ?_); refine box_event ?hg (N := 4) ?hd (cs := #[.int .u8 0, .int .u16 0, .int .u32 0]) (t := 130) ?hr ?_; (case hd => rfl); (case hg => rfl); (case hr => first | (go_simp; done) | (go_simp; rfl)); intro gb316 hg w6 hbox hb; have n0_ := Aside0.mk (blk_below (g := gb311) (o := .cells #[.int .u32 0, .slice none 0 0] 41 (0, 0)) (by (with_reducible repeat (first | refine blk_drewN ?_ _ | refine blk_drew ?_ | refine blk_alloc ?_ _)); exact BK311.out) hb); have n1_ := Aside0.mk (below_step (by repeat (first | (with_reducible first | exact HB.out | apply below_alloc | apply pw_below_drewN | apply below_drew1 | refine below_set ?_ GE311.out) | exact HB.out)) hb); have n2_ := Aside0.mk (hbox); have n3_ := Aside0.mk ((by rw [hg]; exact (below_size (by repeat (first | (with_reducible first | exact HB.out | apply below_alloc | apply pw_below_drewN | apply below_drew1 | refine below_set ?_ GE311.out) | exact HB.out))) : w.heap.size ≤ gb316)); have n4_ := Aside0.mk ((by rw [hg]; exact (below_size (by repeat (first | (with_reducible first | exact HB.out | apply below_alloc | apply pw_below_drewN | apply below_drew1 | refine below_set ?_ GE311.out) | exact HB.out))) : w.heap.size ≤ gb316)); have n5_ := Aside0.mk ((by rw [hg]; exact Nat.ne_of_lt (blk_lt (g := gb311) (o := .cells #[.int .u32 0, .slice none 0 0] 41 (0, 0)) (by (with_reducible repeat (first | refine blk_drewN ?_ _ | refine blk_drew ?_ | refine blk_alloc ?_ _)); exact BK311.out)) : gb311 ≠ gb316)); have n6_ := Aside0.mk ((by rw [hg]; exact Nat.ne_of_gt (blk_lt (g := gb311) (o := .cells #[.int .u32 0, .slice none 0 0] 41 (0, 0)) (by (with_reducible repeat (first | refine blk_drewN ?_ _ | refine blk_drew ?_ | refine blk_alloc ?_ _)); exact BK311.out)) : gb316 ≠ gb311)); clear BK311; clear HB; have BK311 := n0_; have HB := n1_; have BK316 := n2_; have GW316 := n3_; have GE316 := n4_; have NB311_316 := n5_; have NB316_311 := n6_; clear n0_ n1_ n2_ n3_ n4_ n5_ n6_; clear hb hbox hg; have hnb7 := NB316_311.out; have hnc7 := NB311_316.out; have hcz8_0 : w6.cell? ⟨gb316, 0, none⟩ = some (.int .u8 0) := (blk_cell BK316.out 0).trans rfl; have hcz8_1 : w6.cell? ⟨gb316, 1, none⟩ = some (.int .u16 0) := (blk_cell BK316.out 1).trans rfl; have hcz8_2 : w6.cell? ⟨gb316, 2, none⟩ = some (.int .u32 0) := (blk_cell BK316.out 2).trans rfl; have hfz8_0 := blk_frozen BK316.out 0; have hfz8_1 := blk_frozen BK316.out 1; have hfz8_2 := blk_frozen BK316.out 2))
 (try simp only [Act.put, List.setIfInBounds_toArray, List.set_cons_zero, List.set_cons_succ])
 go_cut [24] (fun v24 wc => ∃ (kq : Nat) (x24_2 : Bool), v24 = .bool x24_2 ∧ Aside0 (rowlockref08_Read.j0 kq a0 x24_2 t312 t313 t314 = some (r1, r2, r3)) ∧ Aside0 (kq ≤ k) ∧ Aside0 (wc.heap[gb311]? = some (.cells #[.int .u32 0, (.slice none 0 0)] 41 (0, 0))) ∧ Aside0 (wc.heap[gb316]? = some (.cells #[.int .u8 t312, .int .u16 t313, .int .u32 t314] 130 (0, 0))) ∧ Aside0 (Below w.heap.size w wc))
 case first =>
  have H := HC3.out
  clear HC3
  by_cases c9 : t315 = true
  ·subst c9
   have H1 : (rowlockref08_Read.j0 k a0 (t312 != 1) t312 t313 t314) = some (r1, r2, r3) := by rw [if_pos rfl] at H; exact H
   clear H
   have H := H1
   clear H1
   have H' := Aside0.mk H
   clear H
   have hnb10 := NB316_311.out
   have hnc10 := NB311_316.out
   have hcz11_0 : w6.cell? ⟨gb316, 0, none⟩ = some (.int .u8 0) := (blk_cell BK316.out 0).trans rfl
   have hcz11_1 : w6.cell? ⟨gb316, 1, none⟩ = some (.int .u16 0) := (blk_cell BK316.out 1).trans rfl
   have hcz11_2 : w6.cell? ⟨gb316, 2, none⟩ = some (.int .u32 0) := (blk_cell BK316.out 2).trans rfl
   have hfz11_0 := blk_frozen BK316.out 0
   have hfz11_1 := blk_frozen BK316.out 1
   have hfz11_2 := blk_frozen BK316.out 2
   go_wp2
   go_meet
   case rel => exact ⟨_, ((t312 != 1)), (by first | rfl | (simp; done) | (simp [*]; done)), H', ⟨by first | omega | exact Nat.le_refl _⟩, ⟨by (with_reducible repeat (first | refine blk_drewN ?_ _ | refine blk_drew ?_ | refine blk_alloc ?_ _)); refine blk_far ?_ NB311_316.out _; (with_reducible repeat (first | refine blk_drewN ?_ _ | refine blk_drew ?_ | refine blk_alloc ?_ _)); refine blk_far ?_ NB311_316.out _; (with_reducible repeat (first | refine blk_drewN ?_ _ | refine blk_drew ?_ | refine blk_alloc ?_ _)); refine blk_far ?_ NB311_316.out _; (with_reducible repeat (first | refine blk_drewN ?_ _ | refine blk_drew ?_ | refine blk_alloc ?_ _)); exact BK311.out⟩, ⟨by (with_reducible repeat (first | refine blk_drewN ?_ _ | refine blk_drew ?_ | refine blk_alloc ?_ _)); refine blk_put (cs := #[.int .u8 t312, .int .u16 t313, .int .u32 0]) ?_ 2 _ rfl; (with_reducible repeat (first | refine blk_drewN ?_ _ | refine blk_drew ?_ | refine blk_alloc ?_ _)); refine blk_put (cs := #[.int .u8 t312, .int .u16 0, .int .u32 0]) ?_ 1 _ rfl; (with_reducible repeat (first | refine blk_drewN ?_ _ | refine blk_drew ?_ | refine blk_alloc ?_ _)); refine blk_put (cs := #[.int .u8 0, .int .u16 0, .int .u32 0]) ?_ 0 _ rfl; (with_reducible repeat (first | refine blk_drewN ?_ _ | refine blk_drew ?_ | refine blk_alloc ?_ _)); exact BK316.out⟩, ⟨by repeat (first | (with_reducible first | exact HB.out | apply below_alloc | apply pw_below_drewN | apply below_drew1 | refine below_set ?_ GE311.out | refine below_set ?_ GE316.out) | exact HB.out)⟩⟩
  ·replace c9 := Bool.eq_false_iff.mpr c9
   subst c9
   have H1 : (rowlockref08_Read.j0 k a0 true t312 t313 t314) = some (r1, r2, r3) := by rw [if_neg (show ¬ (false = true) by decide)] at H; exact H
   clear H
   have H := H1
   clear H1
   have H' := Aside0.mk H
   clear H
   go_wp2
   go_meet
   case rel => exact ⟨_, (true), (by first | rfl | (simp; done) | (simp [*]; done)), H', ⟨by first | omega | exact Nat.le_refl _⟩, ⟨by (with_reducible repeat (first | refine blk_drewN ?_ _ | refine blk_drew ?_ | refine blk_alloc ?_ _)); refine blk_far ?_ NB311_316.out _; (with_reducible repeat (first | refine blk_drewN ?_ _ | refine blk_drew ?_ | refine blk_alloc ?_ _)); refine blk_far ?_ NB311_316.out _; (with_reducible repeat (first | refine blk_drewN ?_ _ | refine blk_drew ?_ | refine blk_alloc ?_ _)); refine blk_far ?_ NB311_316.out _; (with_reducible repeat (first | refine blk_drewN ?_ _ | refine blk_drew ?_ | refine blk_alloc ?_ _)); exact BK311.out⟩, ⟨by (with_reducible repeat (first | refine blk_drewN ?_ _ | refine blk_drew ?_ | refine blk_alloc ?_ _)); refine blk_put (cs := #[.int .u8 t312, .int .u16 t313, .int .u32 0]) ?_ 2 _ rfl; (with_reducible repeat (first | refine blk_drewN ?_ _ | refine blk_drew ?_ | refine blk_alloc ?_ _)); refine blk_put (cs := #[.int .u8 t312, .int .u16 0, .int .u32 0]) ?_ 1 _ rfl; (with_reducible repeat (first | refine blk_drewN ?_ _ | refine blk_drew ?_ | refine blk_alloc ?_ _)); refine blk_put (cs := #[.int .u8 0, .int .u16 0, .int .u32 0]) ?_ 0 _ rfl; (with_reducible repeat (first | refine blk_drewN ?_ _ | refine blk_drew ?_ | refine blk_alloc ?_ _)); exact BK316.out⟩, ⟨by repeat (first | (with_reducible first | exact HB.out | apply below_alloc | apply pw_below_drewN | apply below_drew1 | refine below_set ?_ GE311.out | refine below_set ?_ GE316.out) | exact HB.out)⟩⟩
 case rest =>
  clear HC3
  try clear c1
  try clear p2
  try clear c7
  try clear c9
  try clear c10
  try clear c11
  try clear hcz11_0
  try clear hcz11_1
  try clear hcz11_2
  try clear hcz8_0
  try clear hcz8_1
  try clear hcz8_2
  try clear hfz11_0
  try clear hfz11_1
  try clear hfz11_2
  try clear hfz8_0
  try clear hfz8_1
  try clear hfz8_2
  obtain ⟨kq, x24_2, rfl, HA, HJ2, BK311, BK316, HB⟩ := hcut
  cases kq with
  | zero => exact absurd HA.out (by simp [rowlockref08_Read.j0])
  | succ kj2 =>
   have H := HA.out
   clear HA
   simp only [rowlockref08_Read.j0] at H
   by_cases c12 : x24_2 = true
   ·subst c12
    have H1 : (some (0, ([] : List ByteArray), false)) = some (r1, r2, r3) := by rw [if_pos rfl] at H; exact H
    clear H
    have H := H1
    clear H1
    simp only [Option.some.injEq, Prod.mk.injEq] at H
    obtain ⟨rfl, rfl, rfl⟩ := H
    have hnb13 := NB311_316.out
    have hnc13 := NB316_311.out
    have hcz14_0 : wc.cell? ⟨gb311, 0, none⟩ = some (.int .u32 0) := (blk_cell BK311.out 0).trans rfl
    have hcz14_1 : wc.cell? ⟨gb311, 1, none⟩ = some (.slice none 0 0) := (blk_cell BK311.out 1).trans rfl
    have hfz14_0 := blk_frozen BK311.out 0
    have hfz14_1 := blk_frozen BK311.out 1
    go_wp2
    refine bodyPost_ret (results_ct rfl _ _ gb311 41 #[.int .u32 0, .slice none 0 0] (0, 0) _ rfl (by (with_reducible repeat (first | refine blk_drewN ?_ _ | refine blk_drew ?_ | refine blk_alloc ?_ _)); refine blk_put (cs := #[.int .u32 0, .slice none 0 0]) ?_ 1 _ rfl; (with_reducible repeat (first | refine blk_drewN ?_ _ | refine blk_drew ?_ | refine blk_alloc ?_ _)); refine blk_put (cs := #[.int .u32 0, .slice none 0 0]) ?_ 0 _ rfl; (with_reducible repeat (first | refine blk_drewN ?_ _ | refine blk_drew ?_ | refine blk_alloc ?_ _)); exact BK311.out) Try.underlying41 rfl (by kernel_rfl)) rfl ?_
    exact ⟨_, by first | rfl | (simp [errW_none, errW_some] <;> rfl) | (simp [*, errW_none, errW_some] <;> rfl), by first | exact Kd.R_nil _ _ _ _ _ | exact Kd.N_nil _ _ _ _ _ | exact Kd.V_nil _ _ _ _ _ | exact Kd.Q_nil _ _ _ _ _ | exact Kd.S_nil _ _ _ _ _, by repeat (first | (with_reducible first | exact HB.out | apply below_alloc | apply pw_below_drewN | apply below_drew1 | refine below_set ?_ GE311.out | refine below_set ?_ GE316.out) | exact HB.out)⟩
   ·replace c12 := Bool.eq_false_iff.mpr c12
    subst c12
    have H1 : (rowlockref08_Read.l0 kj2 a0 512 0 t312 t313 t314 t314 ([] : List ByteArray)) = some (r1, r2, r3) := by rw [if_neg (show ¬ (false = true) by decide)] at H; exact H
    clear H
    have H := H1
    clear H1
    have H' := Aside0.mk H
    clear H
    have hnb15 := NB316_311.out
    have hnc15 := NB311_316.out
    have hcz16_0 : wc.cell? ⟨gb316, 0, none⟩ = some (.int .u8 t312) := (blk_cell BK316.out 0).trans rfl
    have hcz16_1 : wc.cell? ⟨gb316, 1, none⟩ = some (.int .u16 t313) := (blk_cell BK316.out 1).trans rfl
    have hcz16_2 : wc.cell? ⟨gb316, 2, none⟩ = some (.int .u32 t314) := (blk_cell BK316.out 2).trans rfl
    have hfz16_0 := blk_frozen BK316.out 0
    have hfz16_1 := blk_frozen BK316.out 1
    have hfz16_2 := blk_frozen BK316.out 2
    go_wp2_with (first | ((with_reducible refine gate_dst (N := 6) rfl ?_); refine box_event ?hg (N := 6) ?hd (cs := #[.int .u32 0, .slice none 0 0]) (t := 41) ?hr ?_; (case hd => rfl); (case hg => rfl); (case hr => first | (go_simp; done) | (go_simp; rfl)); intro gb317 hg w17 hbox hb; have n0_ := Aside0.mk (blk_below (g := gb311) (o := .cells #[.int .u32 0, .slice none 0 0] 41 (0, 0)) (by (with_reducible repeat (first | refine blk_drewN ?_ _ | refine blk_drew ?_ | refine blk_alloc ?_ _)); exact BK311.out) hb); have n1_ := Aside0.mk (blk_below (g := gb316) (o := .cells #[.int .u8 t312, .int .u16 t313, .int .u32 t314] 130 (0, 0)) (by (with_reducible repeat (first | refine blk_drewN ?_ _ | refine blk_drew ?_ | refine blk_alloc ?_ _)); exact BK316.out) hb); have n2_ := Aside0.mk (below_step (by repeat (first | (with_reducible first | exact HB.out | apply below_alloc | apply pw_below_drewN | apply below_drew1 | refine below_set ?_ GE311.out | refine below_set ?_ GE316.out) | exact HB.out)) hb); have n3_ := Aside0.mk (hbox); have n4_ := Aside0.mk ((by rw [hg]; exact (below_size (by repeat (first | (with_reducible first | exact HB.out | apply below_alloc | apply pw_below_drewN | apply below_drew1 | refine below_set ?_ GE311.out | refine below_set ?_ GE316.out) | exact HB.out))) : w.heap.size ≤ gb317)); have n5_ := Aside0.mk ((by rw [hg]; exact (below_size (by repeat (first | (with_reducible first | exact HB.out | apply below_alloc | apply pw_below_drewN | apply below_drew1 | refine below_set ?_ GE311.out | refine below_set ?_ GE316.out) | exact HB.out))) : w.heap.size ≤ gb317)); have n6_ := Aside0.mk ((by rw [hg]; exact Nat.ne_of_lt (blk_lt (g := gb311) (o := .cells #[.int .u32 0, .slice none 0 0] 41 (0, 0)) (by (with_reducible repeat (first | refine blk_drewN ?_ _ | refine blk_drew ?_ | refine blk_alloc ?_ _)); exact BK311.out)) : gb311 ≠ gb317)); have n7_ := Aside0.mk ((by rw [hg]; exact Nat.ne_of_gt (blk_lt (g := gb311) (o := .cells #[.int .u32 0, .slice none 0 0] 41 (0, 0)) (by (with_reducible repeat (first | refine blk_drewN ?_ _ | refine blk_drew ?_ | refine blk_alloc ?_ _)); exact BK311.out)) : gb317 ≠ gb311)); have n8_ := Aside0.mk ((by rw [hg]; exact Nat.ne_of_lt (blk_lt (g := gb316) (o := .cells #[.int .u8 t312, .int .u16 t313, .int .u32 t314] 130 (0, 0)) (by (with_reducible repeat (first | refine blk_drewN ?_ _ | refine blk_drew ?_ | refine blk_alloc ?_ _)); exact BK316.out)) : gb316 ≠ gb317)); have n9_ := Aside0.mk ((by rw [hg]; exact Nat.ne_of_gt (blk_lt (g := gb316) (o := .cells #[.int .u8 t312, .int .u16 t313, .int .u32 t314] 130 (0, 0)) (by (with_reducible repeat (first | refine blk_drewN ?_ _ | refine blk_drew ?_ | refine blk_alloc ?_ _)); exact BK316.out)) : gb317 ≠ gb316)); clear BK311; clear BK316; clear HB; have BK311 := n0_; have BK316 := n1_; have HB := n2_; have BK317 := n3_; have GW317 := n4_; have GE317 := n5_; have NB311_317 := n6_; have NB317_311 := n7_; have NB316_317 := n8_; have NB317_316 := n9_; clear n0_ n1_ n2_ n3_ n4_ n5_ n6_ n7_ n8_ n9_; clear hb hbox hg; have hnb18 := NB317_311.out; have hnc18 := NB311_317.out; have hnb19 := NB317_316.out; have hnc19 := NB316_317.out; have hcz20_0 : w17.cell? ⟨gb317, 0, none⟩ = some (.int .u32 0) := (blk_cell BK317.out 0).trans rfl; have hcz20_1 : w17.cell? ⟨gb317, 1, none⟩ = some (.slice none 0 0) := (blk_cell BK317.out 1).trans rfl; have hfz20_0 := blk_frozen BK317.out 0; have hfz20_1 := blk_frozen BK317.out 1))
    go_loopg [7, 8] kj2 (fun kq v7 v8 w' => ∃ (x7_2 : Int) (x8_2 : Int) (x312000_2 : Int) (x318001_2 : List ByteArray) (u318001 : Value), v7 = .int .i64 x7_2 ∧ v8 = .int .i64 x8_2 ∧ Aside0 (rowlockref08_Read.l0 kq a0 x7_2 x8_2 t312 t313 t314 t314 x318001_2 = some (r1, r2, r3)) ∧ Aside0 (kq ≤ kj2) ∧ Aside0 (Kd.R Kd.string 9 w' w.heap.size (fun _ => True) u318001 x318001_2) ∧ Aside0 (w'.heap[gb311]? = some (.cells #[.int .u32 x312000_2, (.slice none 0 0)] 41 (0, 0))) ∧ Aside0 (w'.heap[gb316]? = some (.cells #[.int .u8 t312, .int .u16 t313, .int .u32 t314] 130 (0, 0))) ∧ Aside0 (w'.heap[gb317]? = some (.cells #[.int .u32 t314, u318001] 41 (0, 0))) ∧ Aside0 (Below w.heap.size w w'))
    case atStart => exact ⟨(512), (0), (0), (([] : List ByteArray)), (.slice none 0 0), (by first | rfl | (simp; done) | (simp [*]; done)), (by first | rfl | (simp; done) | (simp [*]; done)), H', ⟨Nat.le_refl _⟩, ⟨by first | exact Kd.R_nil _ _ _ _ _ | exact Kd.N_nil _ _ _ _ _ | exact Kd.V_nil _ _ _ _ _ | exact Kd.Q_nil _ _ _ _ _ | exact Kd.S_nil _ _ _ _ _⟩, ⟨by (with_reducible repeat (first | refine blk_drewN ?_ _ | refine blk_drew ?_ | refine blk_alloc ?_ _)); refine blk_far ?_ NB311_317.out _; (with_reducible repeat (first | refine blk_drewN ?_ _ | refine blk_drew ?_ | refine blk_alloc ?_ _)); refine blk_far ?_ NB311_317.out _; (with_reducible repeat (first | refine blk_drewN ?_ _ | refine blk_drew ?_ | refine blk_alloc ?_ _)); exact BK311.out⟩, ⟨by (with_reducible repeat (first | refine blk_drewN ?_ _ | refine blk_drew ?_ | refine blk_alloc ?_ _)); refine blk_far ?_ NB316_317.out _; (with_reducible repeat (first | refine blk_drewN ?_ _ | refine blk_drew ?_ | refine blk_alloc ?_ _)); refine blk_far ?_ NB316_317.out _; (with_reducible repeat (first | refine blk_drewN ?_ _ | refine blk_drew ?_ | refine blk_alloc ?_ _)); exact BK316.out⟩, ⟨by (with_reducible repeat (first | refine blk_drewN ?_ _ | refine blk_drew ?_ | refine blk_alloc ?_ _)); refine blk_put (cs := #[.int .u32 t314, .slice none 0 0]) ?_ 1 _ rfl; (with_reducible repeat (first | refine blk_drewN ?_ _ | refine blk_drew ?_ | refine blk_alloc ?_ _)); refine blk_put (cs := #[.int .u32 0, .slice none 0 0]) ?_ 0 _ rfl; (with_reducible repeat (first | refine blk_drewN ?_ _ | refine blk_drew ?_ | refine blk_alloc ?_ _)); exact BK317.out⟩, ⟨by repeat (first | (with_reducible first | exact HB.out | apply below_alloc | apply pw_below_drewN | apply below_drew1 | refine below_set ?_ GE311.out | refine below_set ?_ GE316.out | refine below_set ?_ GE317.out) | exact HB.out)⟩⟩
    case round =>
     clear H'
     try clear c1
     try clear p2
     try clear c7
     try clear c9
     try clear c10
     try clear c11
     try clear c12
     try clear c13
     try clear c15
     try clear c18
     try clear c19
     try clear hcz11_0
     try clear hcz11_1
     try clear hcz11_2
     try clear hcz14_0
     try clear hcz14_1
     try clear hcz16_0
     try clear hcz16_1
     try clear hcz16_2
     try clear hcz20_0
     try clear hcz20_1
     try clear hcz8_0
     try clear hcz8_1
     try clear hcz8_2
     try clear hfz11_0
     try clear hfz11_1
     try clear hfz11_2
     try clear hfz14_0
     try clear hfz14_1
     try clear hfz16_0
     try clear hfz16_1
     try clear hfz16_2
     try clear hfz20_0
     try clear hfz20_1
     try clear hfz8_0
     try clear hfz8_1
     try clear hfz8_2
     try clear p2
     obtain ⟨x7_2, x8_2, x312000_2, x318001_2, u318001, rfl, rfl, HA, HK2, HO_318001, BK311, BK316, BK317, HB⟩ := hrel
     cases gk with
     | zero => exact absurd HA.out (by simp [rowlockref08_Read.l0])
     | succ k2 =>
      have H := HA.out
      clear HA
      simp only [rowlockref08_Read.l0] at H
      by_cases c21 : x8_2 < (wrap64 (t313))
      ·rw [if_pos c21] at H
       have c21b0 : decide (x8_2 < (wrap64 (t313))) = true := decide_eq_true c21
       clear c21
       by_cases c22 : (wrap64 ((wrap64 (8 + (wrap64 (4 * x8_2)))) + 4)) > x7_2
       ·rw [if_pos c22] at H
        have c22b0 : decide (x7_2 < (wrap64 ((wrap64 (8 + (wrap64 (4 * x8_2)))) + 4))) = true := decide_eq_true c22
        clear c22
        simp only [Option.some.injEq, Prod.mk.injEq] at H
        obtain ⟨rfl, rfl, rfl⟩ := H
        have hnb23 := NB316_311.out
        have hnc23 := NB311_316.out
        have hnb24 := NB316_317.out
        have hnc24 := NB317_316.out
        have hcz25_0 : wr.cell? ⟨gb316, 0, none⟩ = some (.int .u8 t312) := (blk_cell BK316.out 0).trans rfl
        have hcz25_1 : wr.cell? ⟨gb316, 1, none⟩ = some (.int .u16 t313) := (blk_cell BK316.out 1).trans rfl
        have hcz25_2 : wr.cell? ⟨gb316, 2, none⟩ = some (.int .u32 t314) := (blk_cell BK316.out 2).trans rfl
        have hfz25_0 := blk_frozen BK316.out 0
        have hfz25_1 := blk_frozen BK316.out 1
        have hfz25_2 := blk_frozen BK316.out 2
        have hnb26 := NB311_317.out
        have hnc26 := NB317_311.out
        have hcz27_0 : wr.cell? ⟨gb311, 0, none⟩ = some (.int .u32 x312000_2) := (blk_cell BK311.out 0).trans rfl
        have hcz27_1 : wr.cell? ⟨gb311, 1, none⟩ = some (.slice none 0 0) := (blk_cell BK311.out 1).trans rfl
        have hfz27_0 := blk_frozen BK311.out 0
        have hfz27_1 := blk_frozen BK311.out 1
        go_wp2
        refine bodyPost_ret (results_ct rfl _ _ gb311 41 #[.int .u32 0, .slice none 0 0] (0, 0) _ rfl (by (with_reducible repeat (first | refine blk_drewN ?_ _ | refine blk_drew ?_ | refine blk_alloc ?_ _)); refine blk_put (cs := #[.int .u32 0, .slice none 0 0]) ?_ 1 _ rfl; (with_reducible repeat (first | refine blk_drewN ?_ _ | refine blk_drew ?_ | refine blk_alloc ?_ _)); refine blk_put (cs := #[.int .u32 x312000_2, .slice none 0 0]) ?_ 0 _ rfl; (with_reducible repeat (first | refine blk_drewN ?_ _ | refine blk_drew ?_ | refine blk_alloc ?_ _)); exact BK311.out) Try.underlying41 rfl (by kernel_rfl)) rfl ?_
        exact ⟨_, by first | rfl | (simp [errW_none, errW_some] <;> rfl) | (simp [*, errW_none, errW_some] <;> rfl), by first | exact Kd.R_nil _ _ _ _ _ | exact Kd.N_nil _ _ _ _ _ | exact Kd.V_nil _ _ _ _ _ | exact Kd.Q_nil _ _ _ _ _ | exact Kd.S_nil _ _ _ _ _, by repeat (first | (with_reducible first | exact HB.out | apply below_alloc | apply pw_below_drewN | apply below_drew1 | refine below_set ?_ GE311.out | refine below_set ?_ GE316.out | refine below_set ?_ GE317.out) | exact HB.out)⟩
       ·rw [if_neg c22] at H
        have c22b0 : decide (x7_2 < (wrap64 ((wrap64 (8 + (wrap64 (4 * x8_2)))) + 4))) = false := decide_eq_false c22
        clear c22
        obtain ⟨ji28, hji28⟩ : ∃ j_ : Int, (wrap64 (8 + (wrap64 (4 * x8_2)))) = j_ := ⟨_, rfl⟩
        replace H : (if 0 ≤ (ji28) then (if (ji28) ≤ (wrap64 ((ji28) + 2)) then (if (wrap64 ((ji28) + 2)) ≤ (a0.size : Int) then ((rowlockref06_Value.f k2 (a0.extract ((ji28) : Int).toNat ((wrap64 ((ji28) + 2)) : Int).toNat)).bind fun t318 => (if 0 ≤ (wrap64 ((ji28) + 2)) then (if (wrap64 ((ji28) + 2)) ≤ (wrap64 ((ji28) + 4)) then (if (wrap64 ((ji28) + 4)) ≤ (a0.size : Int) then ((rowlockref06_Value.f k2 (a0.extract ((wrap64 ((ji28) + 2)) : Int).toNat ((wrap64 ((ji28) + 4)) : Int).toNat)).bind fun t319 => (if (wrap64 (t319)) = 0 then (some (0, ([] : List ByteArray), false)) else (if (wrap64 ((wrap64 (t318)) + (wrap64 (t319)))) = x7_2 then (if (wrap64 (t318)) < (wrap64 (8 + (wrap64 (4 * (wrap64 (t313)))))) then (some (0, ([] : List ByteArray), false)) else (if 0 ≤ (wrap64 (t318)) then (if (wrap64 (t318)) ≤ x7_2 then (if x7_2 ≤ (a0.size : Int) then (if x318001_2.length < 8796093022208 then (rowlockref08_Read.l0 k2 a0 (wrap64 (t318)) (wrap64 (x8_2 + 1)) t312 t313 t314 t314 (x318001_2 ++ [a0.extract ((wrap64 (t318)) : Int).toNat (x7_2 : Int).toNat])) else (none)) else (none)) else (none)) else (none))) else (some (0, ([] : List ByteArray), false))))) else (none)) else (none)) else (none))) else (none)) else (none)) else (none)) = some (r1, r2, r3) := by first | (rw [hji28] at H; exact H) | (simp only [hji28] at H ⊢; exact H)
        (try rw [hji28] at c22b0)
        have hji28w : (IntKind.i64.wrap (8 + (wrap64 (4 * x8_2)))) = ji28 := (i64_w _).trans hji28
        by_cases c29 : 0 ≤ (ji28)
        ·rw [if_pos c29] at H
         have c29b0 := eq_true c29
         have c29b1 : decide (0 ≤ (ji28)) = true := decide_eq_true c29
         clear c29
         by_cases c30 : (ji28) ≤ (wrap64 ((ji28) + 2))
         ·rw [if_pos c30] at H
          have c30b0 := eq_true c30
          have c30b1 : decide ((ji28) ≤ (wrap64 ((ji28) + 2))) = true := decide_eq_true c30
          by_cases c31 : (wrap64 ((ji28) + 2)) ≤ (a0.size : Int)
          ·rw [if_pos c31] at H
           have c31b0 := eq_true c31
           have c31b1 : decide ((wrap64 ((ji28) + 2)) ≤ (a0.size : Int)) = true := decide_eq_true c31
           replace H := Option.bind_eq_some_iff.mp H
           obtain ⟨t318, A320, H⟩ := H
           replace H : (if 0 ≤ (wrap64 ((ji28) + 2)) then (if (wrap64 ((ji28) + 2)) ≤ (wrap64 ((ji28) + 4)) then (if (wrap64 ((ji28) + 4)) ≤ (a0.size : Int) then ((rowlockref06_Value.f k2 (a0.extract ((wrap64 ((ji28) + 2)) : Int).toNat ((wrap64 ((ji28) + 4)) : Int).toNat)).bind fun t319 => (if (wrap64 (t319)) = 0 then (some (0, ([] : List ByteArray), false)) else (if (wrap64 ((wrap64 (t318)) + (wrap64 (t319)))) = x7_2 then (if (wrap64 (t318)) < (wrap64 (8 + (wrap64 (4 * (wrap64 (t313)))))) then (some (0, ([] : List ByteArray), false)) else (if 0 ≤ (wrap64 (t318)) then (if (wrap64 (t318)) ≤ x7_2 then (if x7_2 ≤ (a0.size : Int) then (if x318001_2.length < 8796093022208 then (rowlockref08_Read.l0 k2 a0 (wrap64 (t318)) (wrap64 (x8_2 + 1)) t312 t313 t314 t314 (x318001_2 ++ [a0.extract ((wrap64 (t318)) : Int).toNat (x7_2 : Int).toNat])) else (none)) else (none)) else (none)) else (none))) else (some (0, ([] : List ByteArray), false))))) else (none)) else (none)) else (none)) = some (r1, r2, r3) := H
           have A32 := Aside0.mk A320
           clear A320
           obtain ⟨ji33, hji33⟩ : ∃ j_ : Int, (wrap64 ((ji28) + 2)) = j_ := ⟨_, rfl⟩
           replace H : (if 0 ≤ (ji33) then (if (ji33) ≤ (wrap64 ((ji28) + 4)) then (if (wrap64 ((ji28) + 4)) ≤ (a0.size : Int) then ((rowlockref06_Value.f k2 (a0.extract ((ji33) : Int).toNat ((wrap64 ((ji28) + 4)) : Int).toNat)).bind fun t319 => (if (wrap64 (t319)) = 0 then (some (0, ([] : List ByteArray), false)) else (if (wrap64 ((wrap64 (t318)) + (wrap64 (t319)))) = x7_2 then (if (wrap64 (t318)) < (wrap64 (8 + (wrap64 (4 * (wrap64 (t313)))))) then (some (0, ([] : List ByteArray), false)) else (if 0 ≤ (wrap64 (t318)) then (if (wrap64 (t318)) ≤ x7_2 then (if x7_2 ≤ (a0.size : Int) then (if x318001_2.length < 8796093022208 then (rowlockref08_Read.l0 k2 a0 (wrap64 (t318)) (wrap64 (x8_2 + 1)) t312 t313 t314 t314 (x318001_2 ++ [a0.extract ((wrap64 (t318)) : Int).toNat (x7_2 : Int).toNat])) else (none)) else (none)) else (none)) else (none))) else (some (0, ([] : List ByteArray), false))))) else (none)) else (none)) else (none)) = some (r1, r2, r3) := by first | (rw [hji33] at H; exact H) | (simp only [hji33] at H ⊢; exact H)
           (try rw [hji33] at c30b0)
           (try rw [hji33] at c30b1)
           (try rw [hji33] at c30)
           (try rw [hji33] at c31b0)
           (try rw [hji33] at c31b1)
           (try rw [hji33] at c31)
           (try rw [hji33] at A32)
           have hji33w : (IntKind.i64.wrap ((ji28) + 2)) = ji33 := (i64_w _).trans hji33
           by_cases c34 : 0 ≤ (ji33)
           ·rw [if_pos c34] at H
            have c34b0 := eq_true c34
            have c34b1 : decide (0 ≤ (ji33)) = true := decide_eq_true c34
            clear c34
            by_cases c35 : (ji33) ≤ (wrap64 ((ji28) + 4))
            ·rw [if_pos c35] at H
             have c35b0 := eq_true c35
             have c35b1 : decide ((ji33) ≤ (wrap64 ((ji28) + 4))) = true := decide_eq_true c35
             by_cases c36 : (wrap64 ((ji28) + 4)) ≤ (a0.size : Int)
             ·rw [if_pos c36] at H
              have c36b0 := eq_true c36
              have c36b1 : decide ((wrap64 ((ji28) + 4)) ≤ (a0.size : Int)) = true := decide_eq_true c36
              replace H := Option.bind_eq_some_iff.mp H
              obtain ⟨t319, A370, H⟩ := H
              replace H : (if (wrap64 (t319)) = 0 then (some (0, ([] : List ByteArray), false)) else (if (wrap64 ((wrap64 (t318)) + (wrap64 (t319)))) = x7_2 then (if (wrap64 (t318)) < (wrap64 (8 + (wrap64 (4 * (wrap64 (t313)))))) then (some (0, ([] : List ByteArray), false)) else (if 0 ≤ (wrap64 (t318)) then (if (wrap64 (t318)) ≤ x7_2 then (if x7_2 ≤ (a0.size : Int) then (if x318001_2.length < 8796093022208 then (rowlockref08_Read.l0 k2 a0 (wrap64 (t318)) (wrap64 (x8_2 + 1)) t312 t313 t314 t314 (x318001_2 ++ [a0.extract ((wrap64 (t318)) : Int).toNat (x7_2 : Int).toNat])) else (none)) else (none)) else (none)) else (none))) else (some (0, ([] : List ByteArray), false)))) = some (r1, r2, r3) := H
              have A37 := Aside0.mk A370
              clear A370
              by_cases c38 : (wrap64 (t319)) = 0
              ·rw [if_pos c38] at H
               have c38b0 : ((wrap64 (t319)) == 0) = true := beq_iff_eq.mpr c38
               have c38b1 : ((wrap64 (t319)) != 0) = false := bne_eq_false_iff_eq.mpr c38
               clear c38
               simp only [Option.some.injEq, Prod.mk.injEq] at H
               obtain ⟨rfl, rfl, rfl⟩ := H
               have hnb39 := NB316_311.out
               have hnc39 := NB311_316.out
               have hnb40 := NB316_317.out
               have hnc40 := NB317_316.out
               have hcz41_0 : wr.cell? ⟨gb316, 0, none⟩ = some (.int .u8 t312) := (blk_cell BK316.out 0).trans rfl
               have hcz41_1 : wr.cell? ⟨gb316, 1, none⟩ = some (.int .u16 t313) := (blk_cell BK316.out 1).trans rfl
               have hcz41_2 : wr.cell? ⟨gb316, 2, none⟩ = some (.int .u32 t314) := (blk_cell BK316.out 2).trans rfl
               have hfz41_0 := blk_frozen BK316.out 0
               have hfz41_1 := blk_frozen BK316.out 1
               have hfz41_2 := blk_frozen BK316.out 2
               go_wp2_with (first | ((with_reducible refine gate_callee (f := 104) rfl ?_); refine goesL_ (some 49) rfl rfl Try.func104 (by kernel_rfl) rfl #[.string (a0.extract ((ji28) : Int).toNat ((ji33) : Int).toNat)] rfl (by (try simp only [List.map_toArray, List.map_cons, List.map_nil]); first | done | (simp only [hji28, hji33]; rfl) | rfl | (simp only [List.length_drop, List.length_take]; rfl)) ?_; (with_reducible refine (rowlockref06_Value.calls k2 (a0.extract ((ji28) : Int).toNat ((ji33) : Int).toNat) t318 _ A32.out).mono ?_); rintro e w' ⟨rfl, ⟨nd, rfl⟩⟩; refine ⟨_, rfl, ?_⟩; (try (rw [drewN_self wr]; generalize hq_ : World.drewN wr _ = wr; have n0_ : Aside0 (Kd.R Kd.string 9 wr w.heap.size (fun _ => True) u318001 x318001_2) := ⟨by rw [← hq_]; exact (by (with_reducible repeat (first | apply Kd.R_alloc | apply Kd.R_drewN | apply Kd.R_drew)); exact HO_318001.out)⟩; have n1_ : Aside0 (wr.heap[gb311]? = some (.cells #[.int .u32 x312000_2, .slice none 0 0] 41 (0, 0))) := ⟨by rw [← hq_]; exact (by (with_reducible repeat (first | refine blk_drewN ?_ _ | refine blk_drew ?_ | refine blk_alloc ?_ _)); exact BK311.out)⟩; have n2_ : Aside0 (wr.heap[gb316]? = some (.cells #[.int .u8 t312, .int .u16 t313, .int .u32 t314] 130 (0, 0))) := ⟨by rw [← hq_]; exact (by (with_reducible repeat (first | refine blk_drewN ?_ _ | refine blk_drew ?_ | refine blk_alloc ?_ _)); exact BK316.out)⟩; have n3_ : Aside0 (wr.heap[gb317]? = some (.cells #[.int .u32 t314, u318001] 41 (0, 0))) := ⟨by rw [← hq_]; exact (by (with_reducible repeat (first | refine blk_drewN ?_ _ | refine blk_drew ?_ | refine blk_alloc ?_ _)); exact BK317.out)⟩; have n4_ : Aside0 (Below w.heap.size w wr) := ⟨by rw [← hq_]; exact (by repeat (first | (with_reducible first | exact HB.out | apply below_alloc | apply pw_below_drewN | apply below_drew1 | refine below_set ?_ GE311.out | refine below_set ?_ GE316.out | refine below_set ?_ GE317.out) | exact HB.out))⟩; clear HO_318001 BK311 BK316 BK317 HB hq_; have HO_318001 := n0_; have BK311 := n1_; have BK316 := n2_; have BK317 := n3_; have HB := n4_; clear n0_ n1_ n2_ n3_ n4_))) | ((with_reducible refine gate_callee (f := 104) rfl ?_); refine goesL_ (some 57) rfl rfl Try.func104 (by kernel_rfl) rfl #[.string (a0.extract ((ji33) : Int).toNat ((wrap64 ((ji28) + 4)) : Int).toNat)] rfl (by (try simp only [List.map_toArray, List.map_cons, List.map_nil]); first | done | (simp only [hji28, hji33]; rfl) | rfl | (simp only [List.length_drop, List.length_take]; rfl)) ?_; (with_reducible refine (rowlockref06_Value.calls k2 (a0.extract ((ji33) : Int).toNat ((wrap64 ((ji28) + 4)) : Int).toNat) t319 _ A37.out).mono ?_); rintro e w' ⟨rfl, ⟨nd, rfl⟩⟩; refine ⟨_, rfl, ?_⟩; (try (rw [drewN_self wr]; generalize hq_ : World.drewN wr _ = wr; have n0_ : Aside0 (Kd.R Kd.string 9 wr w.heap.size (fun _ => True) u318001 x318001_2) := ⟨by rw [← hq_]; exact (by (with_reducible repeat (first | apply Kd.R_alloc | apply Kd.R_drewN | apply Kd.R_drew)); exact HO_318001.out)⟩; have n1_ : Aside0 (wr.heap[gb311]? = some (.cells #[.int .u32 x312000_2, .slice none 0 0] 41 (0, 0))) := ⟨by rw [← hq_]; exact (by (with_reducible repeat (first | refine blk_drewN ?_ _ | refine blk_drew ?_ | refine blk_alloc ?_ _)); exact BK311.out)⟩; have n2_ : Aside0 (wr.heap[gb316]? = some (.cells #[.int .u8 t312, .int .u16 t313, .int .u32 t314] 130 (0, 0))) := ⟨by rw [← hq_]; exact (by (with_reducible repeat (first | refine blk_drewN ?_ _ | refine blk_drew ?_ | refine blk_alloc ?_ _)); exact BK316.out)⟩; have n3_ : Aside0 (wr.heap[gb317]? = some (.cells #[.int .u32 t314, u318001] 41 (0, 0))) := ⟨by rw [← hq_]; exact (by (with_reducible repeat (first | refine blk_drewN ?_ _ | refine blk_drew ?_ | refine blk_alloc ?_ _)); exact BK317.out)⟩; have n4_ : Aside0 (Below w.heap.size w wr) := ⟨by rw [← hq_]; exact (by repeat (first | (with_reducible first | exact HB.out | apply below_alloc | apply pw_below_drewN | apply below_drew1 | refine below_set ?_ GE311.out | refine below_set ?_ GE316.out | refine below_set ?_ GE317.out) | exact HB.out))⟩; clear HO_318001 BK311 BK316 BK317 HB hq_; have HO_318001 := n0_; have BK311 := n1_; have BK316 := n2_; have BK317 := n3_; have HB := n4_; clear n0_ n1_ n2_ n3_ n4_; have hcw_0 : wr.cell? ⟨gb316, 0, none⟩ = some (.int .u8 t312) := (blk_cell BK316.out 0).trans rfl; have hcw_1 : wr.cell? ⟨gb316, 1, none⟩ = some (.int .u16 t313) := (blk_cell BK316.out 1).trans rfl; have hcw_2 : wr.cell? ⟨gb316, 2, none⟩ = some (.int .u32 t314) := (blk_cell BK316.out 2).trans rfl; have hfw_0 := blk_frozen BK316.out 0; have hfw_1 := blk_frozen BK316.out 1; have hfw_2 := blk_frozen BK316.out 2)); have hnb42 := NB311_317.out; have hnc42 := NB317_311.out; have hcz43_0 : wr.cell? ⟨gb311, 0, none⟩ = some (.int .u32 x312000_2) := (blk_cell BK311.out 0).trans rfl; have hcz43_1 : wr.cell? ⟨gb311, 1, none⟩ = some (.slice none 0 0) := (blk_cell BK311.out 1).trans rfl; have hfz43_0 := blk_frozen BK311.out 0; have hfz43_1 := blk_frozen BK311.out 1))
               refine bodyPost_ret (results_ct rfl _ _ gb311 41 #[.int .u32 0, .slice none 0 0] (0, 0) _ rfl (by (with_reducible repeat (first | refine blk_drewN ?_ _ | refine blk_drew ?_ | refine blk_alloc ?_ _)); refine blk_put (cs := #[.int .u32 0, .slice none 0 0]) ?_ 1 _ rfl; (with_reducible repeat (first | refine blk_drewN ?_ _ | refine blk_drew ?_ | refine blk_alloc ?_ _)); refine blk_put (cs := #[.int .u32 x312000_2, .slice none 0 0]) ?_ 0 _ rfl; (with_reducible repeat (first | refine blk_drewN ?_ _ | refine blk_drew ?_ | refine blk_alloc ?_ _)); exact BK311.out) Try.underlying41 rfl (by kernel_rfl)) rfl ?_
               exact ⟨_, by first | rfl | (simp [errW_none, errW_some] <;> rfl) | (simp only [← hji28, ← hji33]; first | rfl | (simp [errW_none, errW_some] <;> rfl)) | (simp [*, errW_none, errW_some] <;> rfl), by first | exact Kd.R_nil _ _ _ _ _ | exact Kd.N_nil _ _ _ _ _ | exact Kd.V_nil _ _ _ _ _ | exact Kd.Q_nil _ _ _ _ _ | exact Kd.S_nil _ _ _ _ _, by repeat (first | (with_reducible first | exact HB.out | apply below_alloc | apply pw_below_drewN | apply below_drew1 | refine below_set ?_ GE311.out | refine below_set ?_ GE316.out | refine below_set ?_ GE317.out) | exact HB.out)⟩
              ·rw [if_neg c38] at H
               have c38b0 : ((wrap64 (t319)) == 0) = false := beq_eq_false_iff_ne.mpr c38
               have c38b1 : ((wrap64 (t319)) != 0) = true := bne_iff_ne.mpr c38
               by_cases c44 : (wrap64 ((wrap64 (t318)) + (wrap64 (t319)))) = x7_2
               ·rw [if_pos c44] at H
                have c44b0 : ((wrap64 ((wrap64 (t318)) + (wrap64 (t319)))) == x7_2) = true := beq_iff_eq.mpr c44
                have c44b1 : ((wrap64 ((wrap64 (t318)) + (wrap64 (t319)))) != x7_2) = false := bne_eq_false_iff_eq.mpr c44
                clear c44
                by_cases c45 : (wrap64 (t318)) < (wrap64 (8 + (wrap64 (4 * (wrap64 (t313))))))
                ·rw [if_pos c45] at H
                 have c45b0 : decide ((wrap64 (t318)) < (wrap64 (8 + (wrap64 (4 * (wrap64 (t313))))))) = true := decide_eq_true c45
                 clear c45
                 simp only [Option.some.injEq, Prod.mk.injEq] at H
                 obtain ⟨rfl, rfl, rfl⟩ := H
                 have hnb46 := NB316_311.out
                 have hnc46 := NB311_316.out
                 have hnb47 := NB316_317.out
                 have hnc47 := NB317_316.out
                 have hcz48_0 : wr.cell? ⟨gb316, 0, none⟩ = some (.int .u8 t312) := (blk_cell BK316.out 0).trans rfl
                 have hcz48_1 : wr.cell? ⟨gb316, 1, none⟩ = some (.int .u16 t313) := (blk_cell BK316.out 1).trans rfl
                 have hcz48_2 : wr.cell? ⟨gb316, 2, none⟩ = some (.int .u32 t314) := (blk_cell BK316.out 2).trans rfl
                 have hfz48_0 := blk_frozen BK316.out 0
                 have hfz48_1 := blk_frozen BK316.out 1
                 have hfz48_2 := blk_frozen BK316.out 2
                 go_wp2_with (first | ((with_reducible refine gate_callee (f := 104) rfl ?_); refine goesL_ (some 49) rfl rfl Try.func104 (by kernel_rfl) rfl #[.string (a0.extract ((ji28) : Int).toNat ((ji33) : Int).toNat)] rfl (by (try simp only [List.map_toArray, List.map_cons, List.map_nil]); first | done | (simp only [hji28, hji33]; rfl) | rfl | (simp only [List.length_drop, List.length_take]; rfl)) ?_; (with_reducible refine (rowlockref06_Value.calls k2 (a0.extract ((ji28) : Int).toNat ((ji33) : Int).toNat) t318 _ A32.out).mono ?_); rintro e w' ⟨rfl, ⟨nd, rfl⟩⟩; refine ⟨_, rfl, ?_⟩; (try (rw [drewN_self wr]; generalize hq_ : World.drewN wr _ = wr; have n0_ : Aside0 (Kd.R Kd.string 9 wr w.heap.size (fun _ => True) u318001 x318001_2) := ⟨by rw [← hq_]; exact (by (with_reducible repeat (first | apply Kd.R_alloc | apply Kd.R_drewN | apply Kd.R_drew)); exact HO_318001.out)⟩; have n1_ : Aside0 (wr.heap[gb311]? = some (.cells #[.int .u32 x312000_2, .slice none 0 0] 41 (0, 0))) := ⟨by rw [← hq_]; exact (by (with_reducible repeat (first | refine blk_drewN ?_ _ | refine blk_drew ?_ | refine blk_alloc ?_ _)); exact BK311.out)⟩; have n2_ : Aside0 (wr.heap[gb316]? = some (.cells #[.int .u8 t312, .int .u16 t313, .int .u32 t314] 130 (0, 0))) := ⟨by rw [← hq_]; exact (by (with_reducible repeat (first | refine blk_drewN ?_ _ | refine blk_drew ?_ | refine blk_alloc ?_ _)); exact BK316.out)⟩; have n3_ : Aside0 (wr.heap[gb317]? = some (.cells #[.int .u32 t314, u318001] 41 (0, 0))) := ⟨by rw [← hq_]; exact (by (with_reducible repeat (first | refine blk_drewN ?_ _ | refine blk_drew ?_ | refine blk_alloc ?_ _)); exact BK317.out)⟩; have n4_ : Aside0 (Below w.heap.size w wr) := ⟨by rw [← hq_]; exact (by repeat (first | (with_reducible first | exact HB.out | apply below_alloc | apply pw_below_drewN | apply below_drew1 | refine below_set ?_ GE311.out | refine below_set ?_ GE316.out | refine below_set ?_ GE317.out) | exact HB.out))⟩; clear HO_318001 BK311 BK316 BK317 HB hq_; have HO_318001 := n0_; have BK311 := n1_; have BK316 := n2_; have BK317 := n3_; have HB := n4_; clear n0_ n1_ n2_ n3_ n4_))) | ((with_reducible refine gate_callee (f := 104) rfl ?_); refine goesL_ (some 57) rfl rfl Try.func104 (by kernel_rfl) rfl #[.string (a0.extract ((ji33) : Int).toNat ((wrap64 ((ji28) + 4)) : Int).toNat)] rfl (by (try simp only [List.map_toArray, List.map_cons, List.map_nil]); first | done | (simp only [hji28, hji33]; rfl) | rfl | (simp only [List.length_drop, List.length_take]; rfl)) ?_; (with_reducible refine (rowlockref06_Value.calls k2 (a0.extract ((ji33) : Int).toNat ((wrap64 ((ji28) + 4)) : Int).toNat) t319 _ A37.out).mono ?_); rintro e w' ⟨rfl, ⟨nd, rfl⟩⟩; refine ⟨_, rfl, ?_⟩; (try (rw [drewN_self wr]; generalize hq_ : World.drewN wr _ = wr; have n0_ : Aside0 (Kd.R Kd.string 9 wr w.heap.size (fun _ => True) u318001 x318001_2) := ⟨by rw [← hq_]; exact (by (with_reducible repeat (first | apply Kd.R_alloc | apply Kd.R_drewN | apply Kd.R_drew)); exact HO_318001.out)⟩; have n1_ : Aside0 (wr.heap[gb311]? = some (.cells #[.int .u32 x312000_2, .slice none 0 0] 41 (0, 0))) := ⟨by rw [← hq_]; exact (by (with_reducible repeat (first | refine blk_drewN ?_ _ | refine blk_drew ?_ | refine blk_alloc ?_ _)); exact BK311.out)⟩; have n2_ : Aside0 (wr.heap[gb316]? = some (.cells #[.int .u8 t312, .int .u16 t313, .int .u32 t314] 130 (0, 0))) := ⟨by rw [← hq_]; exact (by (with_reducible repeat (first | refine blk_drewN ?_ _ | refine blk_drew ?_ | refine blk_alloc ?_ _)); exact BK316.out)⟩; have n3_ : Aside0 (wr.heap[gb317]? = some (.cells #[.int .u32 t314, u318001] 41 (0, 0))) := ⟨by rw [← hq_]; exact (by (with_reducible repeat (first | refine blk_drewN ?_ _ | refine blk_drew ?_ | refine blk_alloc ?_ _)); exact BK317.out)⟩; have n4_ : Aside0 (Below w.heap.size w wr) := ⟨by rw [← hq_]; exact (by repeat (first | (with_reducible first | exact HB.out | apply below_alloc | apply pw_below_drewN | apply below_drew1 | refine below_set ?_ GE311.out | refine below_set ?_ GE316.out | refine below_set ?_ GE317.out) | exact HB.out))⟩; clear HO_318001 BK311 BK316 BK317 HB hq_; have HO_318001 := n0_; have BK311 := n1_; have BK316 := n2_; have BK317 := n3_; have HB := n4_; clear n0_ n1_ n2_ n3_ n4_; have hcw_0 : wr.cell? ⟨gb316, 0, none⟩ = some (.int .u8 t312) := (blk_cell BK316.out 0).trans rfl; have hcw_1 : wr.cell? ⟨gb316, 1, none⟩ = some (.int .u16 t313) := (blk_cell BK316.out 1).trans rfl; have hcw_2 : wr.cell? ⟨gb316, 2, none⟩ = some (.int .u32 t314) := (blk_cell BK316.out 2).trans rfl; have hfw_0 := blk_frozen BK316.out 0; have hfw_1 := blk_frozen BK316.out 1; have hfw_2 := blk_frozen BK316.out 2)); have hnb49 := NB311_317.out; have hnc49 := NB317_311.out; have hcz50_0 : wr.cell? ⟨gb311, 0, none⟩ = some (.int .u32 x312000_2) := (blk_cell BK311.out 0).trans rfl; have hcz50_1 : wr.cell? ⟨gb311, 1, none⟩ = some (.slice none 0 0) := (blk_cell BK311.out 1).trans rfl; have hfz50_0 := blk_frozen BK311.out 0; have hfz50_1 := blk_frozen BK311.out 1))
                 refine bodyPost_ret (results_ct rfl _ _ gb311 41 #[.int .u32 0, .slice none 0 0] (0, 0) _ rfl (by (with_reducible repeat (first | refine blk_drewN ?_ _ | refine blk_drew ?_ | refine blk_alloc ?_ _)); refine blk_put (cs := #[.int .u32 0, .slice none 0 0]) ?_ 1 _ rfl; (with_reducible repeat (first | refine blk_drewN ?_ _ | refine blk_drew ?_ | refine blk_alloc ?_ _)); refine blk_put (cs := #[.int .u32 x312000_2, .slice none 0 0]) ?_ 0 _ rfl; (with_reducible repeat (first | refine blk_drewN ?_ _ | refine blk_drew ?_ | refine blk_alloc ?_ _)); exact BK311.out) Try.underlying41 rfl (by kernel_rfl)) rfl ?_
                 exact ⟨_, by first | rfl | (simp [errW_none, errW_some] <;> rfl) | (simp only [← hji28, ← hji33]; first | rfl | (simp [errW_none, errW_some] <;> rfl)) | (simp [*, errW_none, errW_some] <;> rfl), by first | exact Kd.R_nil _ _ _ _ _ | exact Kd.N_nil _ _ _ _ _ | exact Kd.V_nil _ _ _ _ _ | exact Kd.Q_nil _ _ _ _ _ | exact Kd.S_nil _ _ _ _ _, by repeat (first | (with_reducible first | exact HB.out | apply below_alloc | apply pw_below_drewN | apply below_drew1 | refine below_set ?_ GE311.out | refine below_set ?_ GE316.out | refine below_set ?_ GE317.out) | exact HB.out)⟩
                ·rw [if_neg c45] at H
                 have c45b0 : decide ((wrap64 (t318)) < (wrap64 (8 + (wrap64 (4 * (wrap64 (t313))))))) = false := decide_eq_false c45
                 clear c45
                 obtain ⟨ji51, hji51⟩ : ∃ j_ : Int, (wrap64 (t318)) = j_ := ⟨_, rfl⟩
                 replace H : (if 0 ≤ (ji51) then (if (ji51) ≤ x7_2 then (if x7_2 ≤ (a0.size : Int) then (if x318001_2.length < 8796093022208 then (rowlockref08_Read.l0 k2 a0 ji51 (wrap64 (x8_2 + 1)) t312 t313 t314 t314 (x318001_2 ++ [a0.extract ((ji51) : Int).toNat (x7_2 : Int).toNat])) else (none)) else (none)) else (none)) else (none)) = some (r1, r2, r3) := by first | (rw [hji51] at H; exact H) | (simp only [hji51] at H ⊢; exact H)
                 (try rw [hji51] at c44b0)
                 (try rw [hji51] at c44b1)
                 (try rw [hji51] at c45b0)
                 (try rw [hji51] at A32)
                 (try rw [hji51] at A37)
                 have hji51w : (IntKind.i64.wrap (t318)) = ji51 := (i64_w _).trans hji51
                 by_cases c52 : 0 ≤ (ji51)
                 ·rw [if_pos c52] at H
                  have c52b0 := eq_true c52
                  have c52b1 : decide (0 ≤ (ji51)) = true := decide_eq_true c52
                  clear c52
                  by_cases c53 : (ji51) ≤ x7_2
                  ·rw [if_pos c53] at H
                   have c53b0 := eq_true c53
                   have c53b1 : decide ((ji51) ≤ x7_2) = true := decide_eq_true c53
                   clear c53
                   by_cases c54 : x7_2 ≤ (a0.size : Int)
                   ·rw [if_pos c54] at H
                    have c54b0 := eq_true c54
                    have c54b1 : decide (x7_2 ≤ (a0.size : Int)) = true := decide_eq_true c54
                    clear c54
                    by_cases c55 : x318001_2.length < 8796093022208
                    ·rw [if_pos c55] at H
                     have LMc55 := Aside0.mk c55
                     clear c55
                     obtain ⟨y320, hy320⟩ : ∃ y_ : List ByteArray, y_ = (x318001_2 ++ [a0.extract ((ji51) : Int).toNat (x7_2 : Int).toNat]) := ⟨_, rfl⟩
                     replace H : (rowlockref08_Read.l0 k2 a0 ji51 (wrap64 (x8_2 + 1)) t312 t313 t314 t314 y320) = some (r1, r2, r3) := by first | (rw [hy320]; with_reducible exact H) | (have H2_ := (Option.bind_some _ _).symm.trans H; rw [hy320]; with_reducible exact H2_) | (have H2_ := (Option.bind_some _ _).symm.trans H; with_reducible exact H2_) | with_reducible exact H | (rw [hy320]; exact H) | exact H
                     have Ny320 := Aside0.mk hy320
                     clear hy320
                     have H' := Aside0.mk H
                     clear H
                     have hnb56 := NB316_311.out
                     have hnc56 := NB311_316.out
                     have hnb57 := NB316_317.out
                     have hnc57 := NB317_316.out
                     have hcz58_0 : wr.cell? ⟨gb316, 0, none⟩ = some (.int .u8 t312) := (blk_cell BK316.out 0).trans rfl
                     have hcz58_1 : wr.cell? ⟨gb316, 1, none⟩ = some (.int .u16 t313) := (blk_cell BK316.out 1).trans rfl
                     have hcz58_2 : wr.cell? ⟨gb316, 2, none⟩ = some (.int .u32 t314) := (blk_cell BK316.out 2).trans rfl
                     have hfz58_0 := blk_frozen BK316.out 0
                     have hfz58_1 := blk_frozen BK316.out 1
                     have hfz58_2 := blk_frozen BK316.out 2
                     try go_wp2_with (first | ((with_reducible refine gate_callee (f := 104) rfl ?_); refine goesL_ (some 49) rfl rfl Try.func104 (by kernel_rfl) rfl #[.string (a0.extract ((ji28) : Int).toNat ((ji33) : Int).toNat)] rfl (by (try simp only [List.map_toArray, List.map_cons, List.map_nil]); first | done | (simp only [hji28, hji33]; rfl) | rfl | (simp only [List.length_drop, List.length_take]; rfl)) ?_; (with_reducible refine (rowlockref06_Value.calls k2 (a0.extract ((ji28) : Int).toNat ((ji33) : Int).toNat) t318 _ A32.out).mono ?_); rintro e w' ⟨rfl, ⟨nd, rfl⟩⟩; refine ⟨_, rfl, ?_⟩; (try (rw [drewN_self wr]; generalize hq_ : World.drewN wr _ = wr; have n0_ : Aside0 (Kd.R Kd.string 9 wr w.heap.size (fun _ => True) u318001 x318001_2) := ⟨by rw [← hq_]; exact (by (with_reducible repeat (first | apply Kd.R_alloc | apply Kd.R_drewN | apply Kd.R_drew)); exact HO_318001.out)⟩; have n1_ : Aside0 (wr.heap[gb311]? = some (.cells #[.int .u32 x312000_2, .slice none 0 0] 41 (0, 0))) := ⟨by rw [← hq_]; exact (by (with_reducible repeat (first | refine blk_drewN ?_ _ | refine blk_drew ?_ | refine blk_alloc ?_ _)); exact BK311.out)⟩; have n2_ : Aside0 (wr.heap[gb316]? = some (.cells #[.int .u8 t312, .int .u16 t313, .int .u32 t314] 130 (0, 0))) := ⟨by rw [← hq_]; exact (by (with_reducible repeat (first | refine blk_drewN ?_ _ | refine blk_drew ?_ | refine blk_alloc ?_ _)); exact BK316.out)⟩; have n3_ : Aside0 (wr.heap[gb317]? = some (.cells #[.int .u32 t314, u318001] 41 (0, 0))) := ⟨by rw [← hq_]; exact (by (with_reducible repeat (first | refine blk_drewN ?_ _ | refine blk_drew ?_ | refine blk_alloc ?_ _)); exact BK317.out)⟩; have n4_ : Aside0 (Below w.heap.size w wr) := ⟨by rw [← hq_]; exact (by repeat (first | (with_reducible first | exact HB.out | apply below_alloc | apply pw_below_drewN | apply below_drew1 | refine below_set ?_ GE311.out | refine below_set ?_ GE316.out | refine below_set ?_ GE317.out) | exact HB.out))⟩; clear HO_318001 BK311 BK316 BK317 HB hq_; have HO_318001 := n0_; have BK311 := n1_; have BK316 := n2_; have BK317 := n3_; have HB := n4_; clear n0_ n1_ n2_ n3_ n4_))) | ((with_reducible refine gate_callee (f := 104) rfl ?_); refine goesL_ (some 57) rfl rfl Try.func104 (by kernel_rfl) rfl #[.string (a0.extract ((ji33) : Int).toNat ((wrap64 ((ji28) + 4)) : Int).toNat)] rfl (by (try simp only [List.map_toArray, List.map_cons, List.map_nil]); first | done | (simp only [hji28, hji33]; rfl) | rfl | (simp only [List.length_drop, List.length_take]; rfl)) ?_; (with_reducible refine (rowlockref06_Value.calls k2 (a0.extract ((ji33) : Int).toNat ((wrap64 ((ji28) + 4)) : Int).toNat) t319 _ A37.out).mono ?_); rintro e w' ⟨rfl, ⟨nd, rfl⟩⟩; refine ⟨_, rfl, ?_⟩; (try (rw [drewN_self wr]; generalize hq_ : World.drewN wr _ = wr; have n0_ : Aside0 (Kd.R Kd.string 9 wr w.heap.size (fun _ => True) u318001 x318001_2) := ⟨by rw [← hq_]; exact (by (with_reducible repeat (first | apply Kd.R_alloc | apply Kd.R_drewN | apply Kd.R_drew)); exact HO_318001.out)⟩; have n1_ : Aside0 (wr.heap[gb311]? = some (.cells #[.int .u32 x312000_2, .slice none 0 0] 41 (0, 0))) := ⟨by rw [← hq_]; exact (by (with_reducible repeat (first | refine blk_drewN ?_ _ | refine blk_drew ?_ | refine blk_alloc ?_ _)); exact BK311.out)⟩; have n2_ : Aside0 (wr.heap[gb316]? = some (.cells #[.int .u8 t312, .int .u16 t313, .int .u32 t314] 130 (0, 0))) := ⟨by rw [← hq_]; exact (by (with_reducible repeat (first | refine blk_drewN ?_ _ | refine blk_drew ?_ | refine blk_alloc ?_ _)); exact BK316.out)⟩; have n3_ : Aside0 (wr.heap[gb317]? = some (.cells #[.int .u32 t314, u318001] 41 (0, 0))) := ⟨by rw [← hq_]; exact (by (with_reducible repeat (first | refine blk_drewN ?_ _ | refine blk_drew ?_ | refine blk_alloc ?_ _)); exact BK317.out)⟩; have n4_ : Aside0 (Below w.heap.size w wr) := ⟨by rw [← hq_]; exact (by repeat (first | (with_reducible first | exact HB.out | apply below_alloc | apply pw_below_drewN | apply below_drew1 | refine below_set ?_ GE311.out | refine below_set ?_ GE316.out | refine below_set ?_ GE317.out) | exact HB.out))⟩; clear HO_318001 BK311 BK316 BK317 HB hq_; have HO_318001 := n0_; have BK311 := n1_; have BK316 := n2_; have BK317 := n3_; have HB := n4_; clear n0_ n1_ n2_ n3_ n4_; have hcw_0 : wr.cell? ⟨gb316, 0, none⟩ = some (.int .u8 t312) := (blk_cell BK316.out 0).trans rfl; have hcw_1 : wr.cell? ⟨gb316, 1, none⟩ = some (.int .u16 t313) := (blk_cell BK316.out 1).trans rfl; have hcw_2 : wr.cell? ⟨gb316, 2, none⟩ = some (.int .u32 t314) := (blk_cell BK316.out 2).trans rfl; have hfw_0 := blk_frozen BK316.out 0; have hfw_1 := blk_frozen BK316.out 1; have hfw_2 := blk_frozen BK316.out 2))))
                     have n0_ := Aside0.mk (Kd.R_drew HO_318001.out)
                     have n1_ := Aside0.mk (blk_drew BK311.out)
                     have n2_ := Aside0.mk (blk_drew BK316.out)
                     have n3_ := Aside0.mk (blk_drew BK317.out)
                     have n4_ := Aside0.mk (below_drew1 HB.out)
                     clear HO_318001
                     clear BK311
                     clear BK316
                     clear BK317
                     clear HB
                     have HO_318001 := n0_
                     have BK311 := n1_
                     have BK316 := n2_
                     have BK317 := n3_
                     have HB := n4_
                     clear n0_ n1_ n2_ n3_ n4_
                     refine start_ (n := 10) (S := fun w' => w'.cell? ⟨gb317, 0, none⟩ = some (.int .u32 t314) ∧ w'.cell? ⟨gb317, 1, none⟩ = some (u318001)) (ds := [9]) #[false, false, false, false, false, false, false, false, false, false] (by kernel_rfl) rfl rfl ⟨(blk_cell BK317.out 0).trans rfl, (blk_cell BK317.out 1).trans rfl⟩ (fun hHeld => ?_); refine with_tabW rowlockref08_Read.tab16 rowlockref08_Read.bits16 (fun HT_ HW_ => ?_)
                     generalize wr.drew = w59 at HO_318001 BK311 BK316 BK317 HB hHeld ⊢
                     refine pure_ (i := 0) (N := some 78) (v := ?_) (a' := ?_) #[true, false, false, false, false, false, false, false, false, false] rfl rfl (any_of HT_.out (by kernel_rfl)) (fun _ _ _ h => h) (Or.inl ⟨by rfl, ?_⟩) ?_ ?_
                     rotate_left
                     ·intro w'
                      go_simp
                      with_reducible rfl
                     rotate_left
                     ·simp only [Act.put, List.setIfInBounds_toArray, List.set_cons_zero, List.set_cons_succ, i64_w, i32_w]
                      rfl
                     refine pure_ (i := 2) (N := some 80) (v := ?_) (a' := ?_) #[true, false, true, false, false, false, false, false, false, false] rfl rfl (any_of HT_.out (by kernel_rfl)) (fun _ _ _ h => h) (Or.inl ⟨by rfl, ?_⟩) ?_ ?_
                     rotate_left
                     ·intro w'
                      go_simp
                      with_reducible rfl
                     rotate_left
                     ·simp only [Act.put, List.setIfInBounds_toArray, List.set_cons_zero, List.set_cons_succ, i64_w, i32_w]
                      rfl
                     refine pure_ (i := 3) (N := some 81) (v := ?_) (a' := ?_) #[true, false, true, true, false, false, false, false, false, false] rfl rfl (any_of HT_.out (by kernel_rfl)) (fun _ _ _ h => h) (Or.inl ⟨by rfl, ?_⟩) ?_ ?_
                     rotate_left
                     ·intro w'
                      go_simp
                      with_reducible rfl
                     rotate_left
                     ·simp only [Act.put, List.setIfInBounds_toArray, List.set_cons_zero, List.set_cons_succ, i64_w, i32_w]
                      rfl
                     refine pure_ (i := 4) (N := some 82) (v := ?_) (a' := ?_) #[true, false, true, true, true, false, false, false, false, false] rfl rfl (any_of HT_.out (by kernel_rfl)) (fun _ _ _ h => h) (Or.inl ⟨by rfl, ?_⟩) ?_ ?_
                     rotate_left
                     ·intro w'
                      go_simp
                      with_reducible rfl
                     rotate_left
                     ·simp only [Act.put, List.setIfInBounds_toArray, List.set_cons_zero, List.set_cons_succ, i64_w, i32_w]
                      rfl
                     refine pure_ (i := 5) (N := some 83) (v := ?_) (a' := ?_) #[true, false, true, true, true, true, false, false, false, false] rfl rfl (any_of HT_.out (by kernel_rfl)) (fun _ _ _ h => h) (Or.inl ⟨by rfl, ?_⟩) ?_ ?_
                     rotate_left
                     ·intro w'
                      go_simp
                      with_reducible rfl
                     rotate_left
                     ·simp only [Act.put, List.setIfInBounds_toArray, List.set_cons_zero, List.set_cons_succ, i64_w, i32_w]
                      rfl
                     refine take_ (i := 1) (N := some 79) (v := ?_) (a' := ?_) #[true, true, true, true, true, true, false, false, false, false] rfl rfl (take_ofW HT_.out HW_.out (by kernel_rfl)) (fun _ _ _ h => h) (Or.inl ⟨by rfl, ?_⟩) hHeld ?_ ?_
                     rotate_left
                     ·rintro w' ⟨s0, s1⟩
                      go_simp
                      with_reducible rfl
                     rotate_left
                     ·simp only [Act.put, List.setIfInBounds_toArray, List.set_cons_zero, List.set_cons_succ, i64_w, i32_w]
                      rfl
                     refine one_ (i := 6) (N := some 84) #[true, true, true, true, true, true, true, false, false, false] rfl rfl (one_of HT_.out (by kernel_rfl)) (by decide) (fun K hK => ?_)
                     refine value_ (w1 := ?_) (v := ?_) (by rfl) rfl ?_ ?_
                     rotate_left 2
                     ·go_simp
                      constructor
                      ·rfl
                      ·rfl
                     refine hK.out _ _ ⟨(blk_cell (blk_alloc BK317.out _) 0).trans rfl, (blk_cell (blk_alloc BK317.out _) 1).trans rfl⟩ (fun hHeld => ?_)
                     clear hK K
                     refine norm_ (a' := ?_) ?_ ?_
                     rotate_left
                     ·show Act.put _ (some 84) _ = _
                      simp only [Act.put, List.setIfInBounds_toArray, List.set_cons_zero, List.set_cons_succ, i64_w, i32_w]
                      rfl
                     refine one_ (i := 7) (N := some 85) #[true, true, true, true, true, true, true, true, false, false] rfl rfl (one_of HT_.out (by kernel_rfl)) (by decide) (fun K hK => ?_)
                     refine Kd.R_append_step Kd.string (w0 := w) w.heap.size (by rfl) (.tmp 79) (.tmp 84) 29 9 (.string ⟨#[]⟩) 16 rfl Try.underlying29 info9 rfl (by decide) (by omega) u318001 x318001_2 (a0.extract ((ji51) : Int).toNat (x7_2 : Int).toNat) [.string (a0.extract ((ji51) : Int).toNat (x7_2 : Int).toNat)] (fun _ => True) (fun _ => False) rfl rfl ?aP (fun _ hk => hk.elim) ?aF ?aO ?aB ?aS ?aL ?_
                     (case aP => exact rfl)
                     (case aB => exact (by repeat (first | (with_reducible first | exact HB.out | apply below_alloc | apply pw_below_drewN | apply below_drew1 | refine below_set ?_ GE311.out | refine below_set ?_ GE316.out | refine below_set ?_ GE317.out) | exact HB.out)))
                     (case aF => exact (fun _ _ => trivial))
                     (case aO => exact (by (with_reducible repeat (first | apply Kd.R_alloc | apply Kd.R_drewN | apply Kd.R_drew)); exact HO_318001.out))
                     (case aS => exact (below_size (by repeat (first | (with_reducible first | exact HB.out | apply below_alloc | apply pw_below_drewN | apply below_drew1 | refine below_set ?_ GE311.out | refine below_set ?_ GE316.out | refine below_set ?_ GE317.out) | exact HB.out))))
                     (case aL => have := LMc55.out; omega)
                     intro v321 w60 ho hb hg hat
                     rw [← Ny320.out] at ho
                     have n0_ := Aside0.mk (blk_grown (g := gb311) (o := .cells #[.int .u32 x312000_2, .slice none 0 0] 41 (0, 0)) (by (with_reducible repeat (first | refine blk_drewN ?_ _ | refine blk_drew ?_ | refine blk_alloc ?_ _)); exact BK311.out) hg (Kd.R_ne HO_318001.out BK311.out (by decide)))
                     have n1_ := Aside0.mk (blk_grown (g := gb316) (o := .cells #[.int .u8 t312, .int .u16 t313, .int .u32 t314] 130 (0, 0)) (by (with_reducible repeat (first | refine blk_drewN ?_ _ | refine blk_drew ?_ | refine blk_alloc ?_ _)); exact BK316.out) hg (Kd.R_ne HO_318001.out BK316.out (by decide)))
                     have n2_ := Aside0.mk (blk_grown (g := gb317) (o := .cells #[.int .u32 t314, u318001] 41 (0, 0)) (by (with_reducible repeat (first | refine blk_drewN ?_ _ | refine blk_drew ?_ | refine blk_alloc ?_ _)); exact BK317.out) hg (Kd.R_ne HO_318001.out BK317.out (by decide)))
                     have n3_ := Aside0.mk (hb)
                     have n4_ := Aside0.mk (ho)
                     clear BK311
                     clear BK316
                     clear BK317
                     clear HB
                     clear HO_318001
                     have BK311 := n0_
                     have BK316 := n1_
                     have BK317 := n2_
                     have HB := n3_
                     have HO322 := n4_
                     clear n0_ n1_ n2_ n3_ n4_
                     clear ho hb hg hat
                     obtain ⟨Ao61, co61, eo61⟩ := Kd.R_slice HO322.out
                     (first | subst eo61 | (injection eo61 with f1_ f2_ f3_; have f4_ := f1_.symm; have f5_ := f3_.symm; clear f1_ f2_ f3_; subst f4_; subst f5_))
                     refine hK.out _ _ ⟨(blk_cell BK317.out 0).trans rfl, (blk_cell BK317.out 1).trans rfl⟩ (fun hHeld => ?_)
                     clear hK K
                     refine norm_ (a' := ?_) ?_ ?_
                     rotate_left
                     ·show Act.put _ (some 85) _ = _
                      simp only [Act.put, List.setIfInBounds_toArray, List.set_cons_zero, List.set_cons_succ, i64_w, i32_w]
                      rfl
                     refine pure_ (i := 8) (N := some 86) (v := ?_) (a' := ?_) #[true, true, true, true, true, true, true, true, true, false] rfl rfl (any_of HT_.out (by kernel_rfl)) (fun _ _ _ h => h) (Or.inl ⟨by rfl, ?_⟩) ?_ ?_
                     rotate_left
                     ·intro w'
                      go_simp
                      with_reducible rfl
                     rotate_left
                     ·simp only [Act.put, List.setIfInBounds_toArray, List.set_cons_zero, List.set_cons_succ, i64_w, i32_w]
                      rfl
                     refine last_ (i := 9) (N := none) #[true, true, true, true, true, true, true, true, true, true] rfl rfl (one_of HT_.out (by kernel_rfl)) (by decide) (fun K hK => ?_)
                     have hs62 : w60.cell? ⟨gb317, 1, none⟩ = some (u318001) := (blk_cell BK317.out 1).trans rfl
                     have hfs62 := blk_frozen BK317.out 1
                     have hns62_0 := NB311_317.out
                     have hns62_1 := NB316_317.out
                     have hms62_0 := NB317_311.out
                     have hms62_1 := NB317_316.out
                     refine skip_ (w1 := ?_) (by rfl) rfl ?_ ?_
                     rotate_left
                     ·go_simp
                      rfl
                     refine hK.out _ _ ?_
                     clear hK K
                     refine done_ (done_of HT_.out (by kernel_rfl)) ?_
                     try go_wp2
                     go_roundg k2
                     case measure => have := HJ2.out; have := HK2.out; omega
                     case rel => exact ⟨(ji51), (wrap64 (x8_2 + 1)), (x312000_2), (y320), (.slice Ao61 y320.length co61), (by first | rfl | (simp; done) | (simp only [← hji51] <;> (first | rfl | simp)) | (simp [*]; done)), (by first | rfl | (simp; done) | (simp [*]; done)), H', ⟨by have := HJ2.out; have := HK2.out; omega⟩, ⟨by (with_reducible repeat (first | apply Kd.R_alloc | apply Kd.R_drewN | apply Kd.R_drew)); exact Kd.R_mono (Kd.R_far (p := ⟨gb317, 1, none⟩) (Kd.R_types HO322.out BK317.out (by decide)) (fun _ hk => hk.2) (.slice Ao61 y320.length co61)) (fun _ hk => trivial)⟩, ⟨by (with_reducible repeat (first | refine blk_drewN ?_ _ | refine blk_drew ?_ | refine blk_alloc ?_ _)); refine blk_far ?_ NB311_317.out _; (with_reducible repeat (first | refine blk_drewN ?_ _ | refine blk_drew ?_ | refine blk_alloc ?_ _)); exact BK311.out⟩, ⟨by (with_reducible repeat (first | refine blk_drewN ?_ _ | refine blk_drew ?_ | refine blk_alloc ?_ _)); refine blk_far ?_ NB316_317.out _; (with_reducible repeat (first | refine blk_drewN ?_ _ | refine blk_drew ?_ | refine blk_alloc ?_ _)); exact BK316.out⟩, ⟨by (with_reducible repeat (first | refine blk_drewN ?_ _ | refine blk_drew ?_ | refine blk_alloc ?_ _)); refine blk_put (cs := #[.int .u32 t314, u318001]) ?_ 1 _ rfl; (with_reducible repeat (first | refine blk_drewN ?_ _ | refine blk_drew ?_ | refine blk_alloc ?_ _)); exact BK317.out⟩, ⟨by repeat (first | (with_reducible first | exact HB.out | apply below_alloc | apply pw_below_drewN | apply below_drew1 | refine below_set ?_ GE311.out | refine below_set ?_ GE316.out | refine below_set ?_ GE317.out) | exact HB.out)⟩⟩
                    ·rw [if_neg c55] at H
                     exact absurd H (by simp)
                   ·rw [if_neg c54] at H
                    exact absurd H (by simp)
                  ·rw [if_neg c53] at H
                   exact absurd H (by simp)
                 ·rw [if_neg c52] at H
                  exact absurd H (by simp)
               ·rw [if_neg c44] at H
                have c44b0 : ((wrap64 ((wrap64 (t318)) + (wrap64 (t319)))) == x7_2) = false := beq_eq_false_iff_ne.mpr c44
                have c44b1 : ((wrap64 ((wrap64 (t318)) + (wrap64 (t319)))) != x7_2) = true := bne_iff_ne.mpr c44
                simp only [Option.some.injEq, Prod.mk.injEq] at H
                obtain ⟨rfl, rfl, rfl⟩ := H
                have hnb63 := NB316_311.out
                have hnc63 := NB311_316.out
                have hnb64 := NB316_317.out
                have hnc64 := NB317_316.out
                have hcz65_0 : wr.cell? ⟨gb316, 0, none⟩ = some (.int .u8 t312) := (blk_cell BK316.out 0).trans rfl
                have hcz65_1 : wr.cell? ⟨gb316, 1, none⟩ = some (.int .u16 t313) := (blk_cell BK316.out 1).trans rfl
                have hcz65_2 : wr.cell? ⟨gb316, 2, none⟩ = some (.int .u32 t314) := (blk_cell BK316.out 2).trans rfl
                have hfz65_0 := blk_frozen BK316.out 0
                have hfz65_1 := blk_frozen BK316.out 1
                have hfz65_2 := blk_frozen BK316.out 2
                go_wp2_with (first | ((with_reducible refine gate_callee (f := 104) rfl ?_); refine goesL_ (some 49) rfl rfl Try.func104 (by kernel_rfl) rfl #[.string (a0.extract ((ji28) : Int).toNat ((ji33) : Int).toNat)] rfl (by (try simp only [List.map_toArray, List.map_cons, List.map_nil]); first | done | (simp only [hji28, hji33]; rfl) | rfl | (simp only [List.length_drop, List.length_take]; rfl)) ?_; (with_reducible refine (rowlockref06_Value.calls k2 (a0.extract ((ji28) : Int).toNat ((ji33) : Int).toNat) t318 _ A32.out).mono ?_); rintro e w' ⟨rfl, ⟨nd, rfl⟩⟩; refine ⟨_, rfl, ?_⟩; (try (rw [drewN_self wr]; generalize hq_ : World.drewN wr _ = wr; have n0_ : Aside0 (Kd.R Kd.string 9 wr w.heap.size (fun _ => True) u318001 x318001_2) := ⟨by rw [← hq_]; exact (by (with_reducible repeat (first | apply Kd.R_alloc | apply Kd.R_drewN | apply Kd.R_drew)); exact HO_318001.out)⟩; have n1_ : Aside0 (wr.heap[gb311]? = some (.cells #[.int .u32 x312000_2, .slice none 0 0] 41 (0, 0))) := ⟨by rw [← hq_]; exact (by (with_reducible repeat (first | refine blk_drewN ?_ _ | refine blk_drew ?_ | refine blk_alloc ?_ _)); exact BK311.out)⟩; have n2_ : Aside0 (wr.heap[gb316]? = some (.cells #[.int .u8 t312, .int .u16 t313, .int .u32 t314] 130 (0, 0))) := ⟨by rw [← hq_]; exact (by (with_reducible repeat (first | refine blk_drewN ?_ _ | refine blk_drew ?_ | refine blk_alloc ?_ _)); exact BK316.out)⟩; have n3_ : Aside0 (wr.heap[gb317]? = some (.cells #[.int .u32 t314, u318001] 41 (0, 0))) := ⟨by rw [← hq_]; exact (by (with_reducible repeat (first | refine blk_drewN ?_ _ | refine blk_drew ?_ | refine blk_alloc ?_ _)); exact BK317.out)⟩; have n4_ : Aside0 (Below w.heap.size w wr) := ⟨by rw [← hq_]; exact (by repeat (first | (with_reducible first | exact HB.out | apply below_alloc | apply pw_below_drewN | apply below_drew1 | refine below_set ?_ GE311.out | refine below_set ?_ GE316.out | refine below_set ?_ GE317.out) | exact HB.out))⟩; clear HO_318001 BK311 BK316 BK317 HB hq_; have HO_318001 := n0_; have BK311 := n1_; have BK316 := n2_; have BK317 := n3_; have HB := n4_; clear n0_ n1_ n2_ n3_ n4_))) | ((with_reducible refine gate_callee (f := 104) rfl ?_); refine goesL_ (some 57) rfl rfl Try.func104 (by kernel_rfl) rfl #[.string (a0.extract ((ji33) : Int).toNat ((wrap64 ((ji28) + 4)) : Int).toNat)] rfl (by (try simp only [List.map_toArray, List.map_cons, List.map_nil]); first | done | (simp only [hji28, hji33]; rfl) | rfl | (simp only [List.length_drop, List.length_take]; rfl)) ?_; (with_reducible refine (rowlockref06_Value.calls k2 (a0.extract ((ji33) : Int).toNat ((wrap64 ((ji28) + 4)) : Int).toNat) t319 _ A37.out).mono ?_); rintro e w' ⟨rfl, ⟨nd, rfl⟩⟩; refine ⟨_, rfl, ?_⟩; (try (rw [drewN_self wr]; generalize hq_ : World.drewN wr _ = wr; have n0_ : Aside0 (Kd.R Kd.string 9 wr w.heap.size (fun _ => True) u318001 x318001_2) := ⟨by rw [← hq_]; exact (by (with_reducible repeat (first | apply Kd.R_alloc | apply Kd.R_drewN | apply Kd.R_drew)); exact HO_318001.out)⟩; have n1_ : Aside0 (wr.heap[gb311]? = some (.cells #[.int .u32 x312000_2, .slice none 0 0] 41 (0, 0))) := ⟨by rw [← hq_]; exact (by (with_reducible repeat (first | refine blk_drewN ?_ _ | refine blk_drew ?_ | refine blk_alloc ?_ _)); exact BK311.out)⟩; have n2_ : Aside0 (wr.heap[gb316]? = some (.cells #[.int .u8 t312, .int .u16 t313, .int .u32 t314] 130 (0, 0))) := ⟨by rw [← hq_]; exact (by (with_reducible repeat (first | refine blk_drewN ?_ _ | refine blk_drew ?_ | refine blk_alloc ?_ _)); exact BK316.out)⟩; have n3_ : Aside0 (wr.heap[gb317]? = some (.cells #[.int .u32 t314, u318001] 41 (0, 0))) := ⟨by rw [← hq_]; exact (by (with_reducible repeat (first | refine blk_drewN ?_ _ | refine blk_drew ?_ | refine blk_alloc ?_ _)); exact BK317.out)⟩; have n4_ : Aside0 (Below w.heap.size w wr) := ⟨by rw [← hq_]; exact (by repeat (first | (with_reducible first | exact HB.out | apply below_alloc | apply pw_below_drewN | apply below_drew1 | refine below_set ?_ GE311.out | refine below_set ?_ GE316.out | refine below_set ?_ GE317.out) | exact HB.out))⟩; clear HO_318001 BK311 BK316 BK317 HB hq_; have HO_318001 := n0_; have BK311 := n1_; have BK316 := n2_; have BK317 := n3_; have HB := n4_; clear n0_ n1_ n2_ n3_ n4_; have hcw_0 : wr.cell? ⟨gb316, 0, none⟩ = some (.int .u8 t312) := (blk_cell BK316.out 0).trans rfl; have hcw_1 : wr.cell? ⟨gb316, 1, none⟩ = some (.int .u16 t313) := (blk_cell BK316.out 1).trans rfl; have hcw_2 : wr.cell? ⟨gb316, 2, none⟩ = some (.int .u32 t314) := (blk_cell BK316.out 2).trans rfl; have hfw_0 := blk_frozen BK316.out 0; have hfw_1 := blk_frozen BK316.out 1; have hfw_2 := blk_frozen BK316.out 2)); have hnb66 := NB311_317.out; have hnc66 := NB317_311.out; have hcz67_0 : wr.cell? ⟨gb311, 0, none⟩ = some (.int .u32 x312000_2) := (blk_cell BK311.out 0).trans rfl; have hcz67_1 : wr.cell? ⟨gb311, 1, none⟩ = some (.slice none 0 0) := (blk_cell BK311.out 1).trans rfl; have hfz67_0 := blk_frozen BK311.out 0; have hfz67_1 := blk_frozen BK311.out 1))
                refine bodyPost_ret (results_ct rfl _ _ gb311 41 #[.int .u32 0, .slice none 0 0] (0, 0) _ rfl (by (with_reducible repeat (first | refine blk_drewN ?_ _ | refine blk_drew ?_ | refine blk_alloc ?_ _)); refine blk_put (cs := #[.int .u32 0, .slice none 0 0]) ?_ 1 _ rfl; (with_reducible repeat (first | refine blk_drewN ?_ _ | refine blk_drew ?_ | refine blk_alloc ?_ _)); refine blk_put (cs := #[.int .u32 x312000_2, .slice none 0 0]) ?_ 0 _ rfl; (with_reducible repeat (first | refine blk_drewN ?_ _ | refine blk_drew ?_ | refine blk_alloc ?_ _)); exact BK311.out) Try.underlying41 rfl (by kernel_rfl)) rfl ?_
                exact ⟨_, by first | rfl | (simp [errW_none, errW_some] <;> rfl) | (simp only [← hji28, ← hji33]; first | rfl | (simp [errW_none, errW_some] <;> rfl)) | (simp [*, errW_none, errW_some] <;> rfl), by first | exact Kd.R_nil _ _ _ _ _ | exact Kd.N_nil _ _ _ _ _ | exact Kd.V_nil _ _ _ _ _ | exact Kd.Q_nil _ _ _ _ _ | exact Kd.S_nil _ _ _ _ _, by repeat (first | (with_reducible first | exact HB.out | apply below_alloc | apply pw_below_drewN | apply below_drew1 | refine below_set ?_ GE311.out | refine below_set ?_ GE316.out | refine below_set ?_ GE317.out) | exact HB.out)⟩
             ·rw [if_neg c36] at H
              exact absurd H (by simp)
            ·rw [if_neg c35] at H
             exact absurd H (by simp)
           ·rw [if_neg c34] at H
            exact absurd H (by simp)
          ·rw [if_neg c31] at H
           exact absurd H (by simp)
         ·rw [if_neg c30] at H
          exact absurd H (by simp)
        ·rw [if_neg c29] at H
         exact absurd H (by simp)
      ·rw [if_neg c21] at H
       have c21b0 : decide (x8_2 < (wrap64 (t313))) = false := decide_eq_false c21
       clear c21
       have H' := Aside0.mk H
       clear H
       have hnb68 := NB316_311.out
       have hnc68 := NB311_316.out
       have hnb69 := NB316_317.out
       have hnc69 := NB317_316.out
       have hcz70_0 : wr.cell? ⟨gb316, 0, none⟩ = some (.int .u8 t312) := (blk_cell BK316.out 0).trans rfl
       have hcz70_1 : wr.cell? ⟨gb316, 1, none⟩ = some (.int .u16 t313) := (blk_cell BK316.out 1).trans rfl
       have hcz70_2 : wr.cell? ⟨gb316, 2, none⟩ = some (.int .u32 t314) := (blk_cell BK316.out 2).trans rfl
       have hfz70_0 := blk_frozen BK316.out 0
       have hfz70_1 := blk_frozen BK316.out 1
       have hfz70_2 := blk_frozen BK316.out 2
       go_wp2
       go_loopg [12] k2 (fun kq v12 w' => ∃ (x12_3 : Int) (x312000_3 : Int), v12 = .int .i64 x12_3 ∧ Aside0 (rowlockref08_Read.l1 kq a0 x7_2 x12_3 t314 x318001_2 = some (r1, r2, r3)) ∧ Aside0 (kq ≤ k2) ∧ Aside0 (Kd.R Kd.string 9 w' w.heap.size (fun _ => True) u318001 x318001_2) ∧ Aside0 (w'.heap[gb311]? = some (.cells #[.int .u32 x312000_3, (.slice none 0 0)] 41 (0, 0))) ∧ Aside0 (w'.heap[gb316]? = some (.cells #[.int .u8 t312, .int .u16 t313, .int .u32 t314] 130 (0, 0))) ∧ Aside0 (w'.heap[gb317]? = some (.cells #[.int .u32 t314, u318001] 41 (0, 0))) ∧ Aside0 (Below w.heap.size w w'))
       case atStart => exact ⟨(wrap64 (8 + (wrap64 (4 * (wrap64 (t313)))))), (x312000_2), (by first | rfl | (simp; done) | (simp [*]; done)), H', ⟨Nat.le_refl _⟩, ⟨by (with_reducible repeat (first | apply Kd.R_alloc | apply Kd.R_drewN | apply Kd.R_drew)); exact HO_318001.out⟩, ⟨by (with_reducible repeat (first | refine blk_drewN ?_ _ | refine blk_drew ?_ | refine blk_alloc ?_ _)); exact BK311.out⟩, ⟨by (with_reducible repeat (first | refine blk_drewN ?_ _ | refine blk_drew ?_ | refine blk_alloc ?_ _)); exact BK316.out⟩, ⟨by (with_reducible repeat (first | refine blk_drewN ?_ _ | refine blk_drew ?_ | refine blk_alloc ?_ _)); exact BK317.out⟩, ⟨by repeat (first | (with_reducible first | exact HB.out | apply below_alloc | apply pw_below_drewN | apply below_drew1 | refine below_set ?_ GE311.out | refine below_set ?_ GE316.out | refine below_set ?_ GE317.out) | exact HB.out)⟩⟩
       case round =>
        clear H'
        try clear c1
        try clear c2
        try clear p2
        try clear c3
        try clear c4
        try clear c5
        try clear c6
        try clear p6
        try clear c7
        try clear c9
        try clear c10
        try clear c11
        try clear c12
        try clear c13
        try clear c15
        try clear c18
        try clear c19
        try clear c21
        try clear c21b0
        try clear c22
        try clear c22b0
        try clear c23
        try clear c24
        try clear c26
        try clear c29
        try clear c29b0
        try clear c29b1
        try clear c30
        try clear c30b0
        try clear c30b1
        try clear c31
        try clear c31b0
        try clear c31b1
        try clear c34
        try clear c34b0
        try clear c34b1
        try clear c35
        try clear c35b0
        try clear c35b1
        try clear c36
        try clear c36b0
        try clear c36b1
        try clear c38
        try clear c38b0
        try clear c38b1
        try clear c39
        try clear c40
        try clear c42
        try clear c44
        try clear c44b0
        try clear c44b1
        try clear c45
        try clear c45b0
        try clear c46
        try clear c47
        try clear c49
        try clear c52
        try clear c52b0
        try clear c52b1
        try clear c53
        try clear c53b0
        try clear c53b1
        try clear c54
        try clear c54b0
        try clear c54b1
        try clear c55
        try clear c56
        try clear c57
        try clear c63
        try clear c64
        try clear p64
        try clear c66
        try clear c68
        try clear c69
        try clear hcz11_0
        try clear hcz11_1
        try clear hcz11_2
        try clear hcz14_0
        try clear hcz14_1
        try clear hcz16_0
        try clear hcz16_1
        try clear hcz16_2
        try clear hcz20_0
        try clear hcz20_1
        try clear hcz25_0
        try clear hcz25_1
        try clear hcz25_2
        try clear hcz27_0
        try clear hcz27_1
        try clear hcz41_0
        try clear hcz41_1
        try clear hcz41_2
        try clear hcz43_0
        try clear hcz43_1
        try clear hcz48_0
        try clear hcz48_1
        try clear hcz48_2
        try clear hcz50_0
        try clear hcz50_1
        try clear hcz58_0
        try clear hcz58_1
        try clear hcz58_2
        try clear hcz65_0
        try clear hcz65_1
        try clear hcz65_2
        try clear hcz67_0
        try clear hcz67_1
        try clear hcz70_0
        try clear hcz70_1
        try clear hcz70_2
        try clear hcz8_0
        try clear hcz8_1
        try clear hcz8_2
        try clear hfz11_0
        try clear hfz11_1
        try clear hfz11_2
        try clear hfz14_0
        try clear hfz14_1
        try clear hfz16_0
        try clear hfz16_1
        try clear hfz16_2
        try clear hfz20_0
        try clear hfz20_1
        try clear hfz25_0
        try clear hfz25_1
        try clear hfz25_2
        try clear hfz27_0
        try clear hfz27_1
        try clear hfz41_0
        try clear hfz41_1
        try clear hfz41_2
        try clear hfz43_0
        try clear hfz43_1
        try clear hfz48_0
        try clear hfz48_1
        try clear hfz48_2
        try clear hfz50_0
        try clear hfz50_1
        try clear hfz58_0
        try clear hfz58_1
        try clear hfz58_2
        try clear hfz65_0
        try clear hfz65_1
        try clear hfz65_2
        try clear hfz67_0
        try clear hfz67_1
        try clear hfz70_0
        try clear hfz70_1
        try clear hfz70_2
        try clear hfz8_0
        try clear hfz8_1
        try clear hfz8_2
        try clear p2
        obtain ⟨x12_3, x312000_3, rfl, HA, HK3, HO_318001, BK311, BK316, BK317, HB⟩ := hrel
        cases gk with
        | zero => exact absurd HA.out (by simp [rowlockref08_Read.l1])
        | succ k3 =>
         have H := HA.out
         clear HA
         simp only [rowlockref08_Read.l1] at H
         by_cases c71 : x12_3 < x7_2
         ·rw [if_pos c71] at H
          have c71b0 : decide (x12_3 < x7_2) = true := decide_eq_true c71
          clear c71
          by_cases c72 : 0 ≤ x12_3
          ·rw [if_pos c72] at H
           have c72b0 : decide (0 ≤ x12_3) = true := decide_eq_true c72
           clear c72
           by_cases c73 : x12_3 < (a0.size : Int)
           ·rw [if_pos c73] at H
            have c73b0 : decide (x12_3 < (a0.size : Int)) = true := decide_eq_true c73
            clear c73
            by_cases c75 : (bt a0 x12_3) = 0
            ·rw [if_pos c75] at H
             have c75b0 : ((bt a0 x12_3) == 0) = true := beq_iff_eq.mpr c75
             have c75b1 : ((bt a0 x12_3) != 0) = false := bne_eq_false_iff_eq.mpr c75
             clear c75
             have H' := Aside0.mk H
             clear H
             have p74 : 0 ≤ (x12_3 : Int) := of_decide_eq_true (by first | (with_reducible assumption) | assumption)
             have q74 : x12_3 < (a0.size : Int) := of_decide_eq_true (by first | (with_reducible assumption) | assumption)
             have hx74 := bt_at a0 x12_3
             replace p74 := eq_true p74
             have p74D := p74; try simp only [List.length_drop, List.length_take] at p74D
             replace q74 := eq_true q74
             have q74D := q74; try simp only [List.length_drop, List.length_take] at q74D
             go_wp2
             go_roundg k3
             case measure => have := HJ2.out; have := HK2.out; have := HK3.out; omega
             case rel => exact ⟨(wrap64 (x12_3 + 1)), (x312000_3), (by first | rfl | (simp; done) | (simp [*]; done)), H', ⟨by have := HJ2.out; have := HK2.out; have := HK3.out; omega⟩, ⟨by (with_reducible repeat (first | apply Kd.R_alloc | apply Kd.R_drewN | apply Kd.R_drew)); exact HO_318001.out⟩, ⟨by (with_reducible repeat (first | refine blk_drewN ?_ _ | refine blk_drew ?_ | refine blk_alloc ?_ _)); exact BK311.out⟩, ⟨by (with_reducible repeat (first | refine blk_drewN ?_ _ | refine blk_drew ?_ | refine blk_alloc ?_ _)); exact BK316.out⟩, ⟨by (with_reducible repeat (first | refine blk_drewN ?_ _ | refine blk_drew ?_ | refine blk_alloc ?_ _)); exact BK317.out⟩, ⟨by repeat (first | (with_reducible first | exact HB.out | apply below_alloc | apply pw_below_drewN | apply below_drew1 | refine below_set ?_ GE311.out | refine below_set ?_ GE316.out | refine below_set ?_ GE317.out) | exact HB.out)⟩⟩
            ·rw [if_neg c75] at H
             have c75b0 : ((bt a0 x12_3) == 0) = false := beq_eq_false_iff_ne.mpr c75
             have c75b1 : ((bt a0 x12_3) != 0) = true := bne_iff_ne.mpr c75
             simp only [Option.some.injEq, Prod.mk.injEq] at H
             obtain ⟨rfl, rfl, rfl⟩ := H
             have p74 : 0 ≤ (x12_3 : Int) := of_decide_eq_true (by first | (with_reducible assumption) | assumption)
             have q74 : x12_3 < (a0.size : Int) := of_decide_eq_true (by first | (with_reducible assumption) | assumption)
             have hx74 := bt_at a0 x12_3
             replace p74 := eq_true p74
             have p74D := p74; try simp only [List.length_drop, List.length_take] at p74D
             replace q74 := eq_true q74
             have q74D := q74; try simp only [List.length_drop, List.length_take] at q74D
             have hnb76 := NB311_316.out
             have hnc76 := NB316_311.out
             have hnb77 := NB311_317.out
             have hnc77 := NB317_311.out
             have hcz78_0 : wr.cell? ⟨gb311, 0, none⟩ = some (.int .u32 x312000_3) := (blk_cell BK311.out 0).trans rfl
             have hcz78_1 : wr.cell? ⟨gb311, 1, none⟩ = some (.slice none 0 0) := (blk_cell BK311.out 1).trans rfl
             have hfz78_0 := blk_frozen BK311.out 0
             have hfz78_1 := blk_frozen BK311.out 1
             go_wp2
             refine bodyPost_ret (results_ct rfl _ _ gb311 41 #[.int .u32 0, .slice none 0 0] (0, 0) _ rfl (by (with_reducible repeat (first | refine blk_drewN ?_ _ | refine blk_drew ?_ | refine blk_alloc ?_ _)); refine blk_put (cs := #[.int .u32 0, .slice none 0 0]) ?_ 1 _ rfl; (with_reducible repeat (first | refine blk_drewN ?_ _ | refine blk_drew ?_ | refine blk_alloc ?_ _)); refine blk_put (cs := #[.int .u32 x312000_3, .slice none 0 0]) ?_ 0 _ rfl; (with_reducible repeat (first | refine blk_drewN ?_ _ | refine blk_drew ?_ | refine blk_alloc ?_ _)); exact BK311.out) Try.underlying41 rfl (by kernel_rfl)) rfl ?_
             exact ⟨_, by first | rfl | (simp [errW_none, errW_some] <;> rfl) | (simp [*, errW_none, errW_some] <;> rfl), by first | exact Kd.R_nil _ _ _ _ _ | exact Kd.N_nil _ _ _ _ _ | exact Kd.V_nil _ _ _ _ _ | exact Kd.Q_nil _ _ _ _ _ | exact Kd.S_nil _ _ _ _ _, by repeat (first | (with_reducible first | exact HB.out | apply below_alloc | apply pw_below_drewN | apply below_drew1 | refine below_set ?_ GE311.out | refine below_set ?_ GE316.out | refine below_set ?_ GE317.out) | exact HB.out)⟩
           ·rw [if_neg c73] at H
            exact absurd H (by simp)
          ·rw [if_neg c72] at H
           exact absurd H (by simp)
         ·rw [if_neg c71] at H
          have c71b0 : decide (x12_3 < x7_2) = false := decide_eq_false c71
          clear c71
          simp only [Option.some.injEq, Prod.mk.injEq] at H
          obtain ⟨rfl, rfl, rfl⟩ := H
          have hnb79 := NB317_311.out
          have hnc79 := NB311_317.out
          have hnb80 := NB317_316.out
          have hnc80 := NB316_317.out
          have hcz81_0 : wr.cell? ⟨gb317, 0, none⟩ = some (.int .u32 t314) := (blk_cell BK317.out 0).trans rfl
          have hcz81_1 : wr.cell? ⟨gb317, 1, none⟩ = some (u318001) := (blk_cell BK317.out 1).trans rfl
          have hfz81_0 := blk_frozen BK317.out 0
          have hfz81_1 := blk_frozen BK317.out 1
          have hnb82 := NB311_316.out
          have hnc82 := NB316_311.out
          have hcz83_0 : wr.cell? ⟨gb311, 0, none⟩ = some (.int .u32 x312000_3) := (blk_cell BK311.out 0).trans rfl
          have hcz83_1 : wr.cell? ⟨gb311, 1, none⟩ = some (.slice none 0 0) := (blk_cell BK311.out 1).trans rfl
          have hfz83_0 := blk_frozen BK311.out 0
          have hfz83_1 := blk_frozen BK311.out 1
          obtain ⟨Ao84, co84, eo84⟩ := Kd.R_slice HO_318001.out
          subst eo84
          go_wp2
          refine bodyPost_ret (results_ct rfl _ _ gb311 41 #[.int .u32 t314, .slice Ao84 x318001_2.length co84] (0, 0) _ rfl (by (with_reducible repeat (first | refine blk_drewN ?_ _ | refine blk_drew ?_ | refine blk_alloc ?_ _)); refine blk_put (cs := #[.int .u32 t314, .slice none 0 0]) ?_ 1 _ rfl; (with_reducible repeat (first | refine blk_drewN ?_ _ | refine blk_drew ?_ | refine blk_alloc ?_ _)); refine blk_put (cs := #[.int .u32 x312000_3, .slice none 0 0]) ?_ 0 _ rfl; (with_reducible repeat (first | refine blk_drewN ?_ _ | refine blk_drew ?_ | refine blk_alloc ?_ _)); exact BK311.out) Try.underlying41 rfl (by kernel_rfl)) rfl ?_
          exact ⟨_, by first | rfl | (simp [errW_none, errW_some] <;> rfl) | (simp [*, errW_none, errW_some] <;> rfl), by (with_reducible repeat (first | apply Kd.R_alloc | apply Kd.R_drewN | apply Kd.R_drew)); exact Kd.R_mono (Kd.R_far (p := ⟨gb311, 1, none⟩) (Kd.R_far (p := ⟨gb311, 0, none⟩) (Kd.R_types HO_318001.out BK311.out (by decide)) (fun _ hk => hk.2) (.int .u32 t314)) (fun _ hk => hk.2) (.slice Ao84 x318001_2.length co84)) (fun _ hk => trivial), by repeat (first | (with_reducible first | exact HB.out | apply below_alloc | apply pw_below_drewN | apply below_drew1 | refine below_set ?_ GE311.out | refine below_set ?_ GE316.out | refine below_set ?_ GE317.out) | exact HB.out)⟩

end Go.Proofs.Ytpfegfkniilobaa.XHeap
