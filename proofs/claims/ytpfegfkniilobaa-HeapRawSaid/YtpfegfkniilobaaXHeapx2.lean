-- Written by this session's own program (wip/own_print.py) over the kit's print, with this session's hand-proved contracts in their places; Lean checks it.
import Derived.Test.YtpfegfkniilobaaXHeapx0
namespace Go.Proofs.Ytpfegfkniilobaa.XHeap
open Go.RowKit Go.Proofs.YtpfegfkniilobaaW.PrintWords Go.Proofs.YtpfegfkniilobaaW.PrintLast Go.Proofs.YtpfegfkniilobaaW.PrintMore
attribute [local go_sem] max2_int min2_int max_two min_two max_three min_three max_four min_four   -- for this text's walks alone
set_option linter.unusedVariables false
set_option linter.unusedSimpArgs false

/-! ### rowlockref06_Load: function 19 -/
mutual
def rowlockref06_Load.j0 : Nat → ByteArray → Int → Bool → Option (List ByteArray × List Bool × Bool)
 | 0, _, _, _ => none
 | k + 1, x0, x4, x22 => if x22 = true then (some (([] : List ByteArray), ([] : List Bool), false)) else (rowlockref06_Load.l0 k x0 x4 0 ([] : List ByteArray) ([] : List Bool))
def rowlockref06_Load.l0 : Nat → ByteArray → Int → Int → List ByteArray → List Bool → Option (List ByteArray × List Bool × Bool)
 | 0, _, _, _, _, _ => none
 | k + 1, x0, x4, x6, x110000, x110001 => if x6 < x4 then (if 0 ≤ (wrap64 (512 * x6)) then (if (wrap64 (512 * x6)) ≤ (wrap64 ((wrap64 (512 * x6)) + 512)) then (if (wrap64 ((wrap64 (512 * x6)) + 512)) ≤ (x0.size : Int) then (if x110000.length < 8796093022208 then ((some (x110000 ++ [x0.extract ((wrap64 (512 * x6)) : Int).toNat ((wrap64 ((wrap64 (512 * x6)) + 512)) : Int).toNat] : List ByteArray)).bind fun y110 => (if x6 = 0 then (if x110001.length < 140737488355328 then (rowlockref06_Load.l0 k x0 x4 (wrap64 (x6 + 1)) y110 (x110001 ++ [true])) else (none)) else (if 0 < ((x0.extract ((wrap64 (512 * x6)) : Int).toNat ((wrap64 ((wrap64 (512 * x6)) + 512)) : Int).toNat).size : Int) then (if x110001.length < 140737488355328 then (rowlockref06_Load.l0 k x0 x4 (wrap64 (x6 + 1)) y110 (x110001 ++ [((bt (x0.extract ((wrap64 (512 * x6)) : Int).toNat ((wrap64 ((wrap64 (512 * x6)) + 512)) : Int).toNat) 0) != 0)])) else (none)) else (none)))) else (none)) else (none)) else (none)) else (none)) else (some (x110000, x110001, true))
end
def rowlockref06_Load.f (k : Nat) (a0 : ByteArray) : Option (List ByteArray × List Bool × Bool) := if ((a0.size : Int) % 512) = 0 then (if (wrap64 ((a0.size : Int) / 512)) = 0 then (rowlockref06_Load.j0 k a0 (wrap64 ((a0.size : Int) / 512)) true) else (rowlockref06_Load.j0 k a0 (wrap64 ((a0.size : Int) / 512)) (decide ((wrap64 ((a0.size : Int) / 512)) > 4096)))) else (rowlockref06_Load.j0 k a0 (wrap64 ((a0.size : Int) / 512)) true)
theorem rowlockref06_Load.mono_l : ∀ k, (∀ y0 y1 y2, LeO (rowlockref06_Load.j0 k y0 y1 y2) (rowlockref06_Load.j0 (k + 1) y0 y1 y2)) ∧ (∀ y0 y1 y2 y3 y4, LeO (rowlockref06_Load.l0 k y0 y1 y2 y3 y4) (rowlockref06_Load.l0 (k + 1) y0 y1 y2 y3 y4))
 | 0 => ⟨fun _ _ _ r h => by simp [rowlockref06_Load.j0] at h, fun _ _ _ _ _ r h => by simp [rowlockref06_Load.l0] at h⟩
 | k + 1 => by
  obtain ⟨ih0, ih1⟩ := rowlockref06_Load.mono_l k
  refine ⟨?_, ?_⟩
  ·intro y0 y1 y2
   unfold rowlockref06_Load.j0
   repeat' first
   | (with_reducible exact ih0 _ _ _)
   | (with_reducible exact ih1 _ _ _ _ _)
   | (with_reducible exact LeO.refl _)
   | (with_reducible exact LeO.none _)
   | (with_reducible refine LeO.ite ?_ ?_)
   | (with_reducible refine LeO.bind ?_ (fun _ => ?_))
   | exact ih0 _ _ _
   | exact ih1 _ _ _ _ _
   | exact LeO.none _
   | refine LeO.ite ?_ ?_
   | refine LeO.bind ?_ (fun _ => ?_)
  ·intro y0 y1 y2 y3 y4
   unfold rowlockref06_Load.l0
   repeat' first
   | (with_reducible exact ih0 _ _ _)
   | (with_reducible exact ih1 _ _ _ _ _)
   | (with_reducible exact LeO.refl _)
   | (with_reducible exact LeO.none _)
   | (with_reducible refine LeO.ite ?_ ?_)
   | (with_reducible refine LeO.bind ?_ (fun _ => ?_))
   | exact ih0 _ _ _
   | exact ih1 _ _ _ _ _
   | exact LeO.none _
   | refine LeO.ite ?_ ?_
   | refine LeO.bind ?_ (fun _ => ?_)
def rowlockref06_Load.T10 : Bool × List (List Nat × List Nat) := (true, [([], []), ([0], [0]), ([], []), ([2], [2]), ([3], [3]), ([4], [4]), ([5, 4], [4, 5]), ([6, 4], [4, 6]), ([4, 7], [4, 7]), ([8], [8]), ([1, 9, 4], [1, 9]), ([0, 1, 2, 3, 4, 5, 6, 7, 8, 9, 10], []), ([11, 10, 10, 0, 1, 2, 3, 4, 5, 6, 7, 8, 9, 10], [10, 11])])
def rowlockref06_Load.B10 : List Nat := [0, 1, 0, 4, 12, 28, 60, 124, 252, 508, 1023, 2047, 4095]
theorem rowlockref06_Load.tab10 : rtab .any (opsOf Try.f19 10) = rowlockref06_Load.T10 := by kernel_rfl
theorem rowlockref06_Load.bits10 : waitsOk rowlockref06_Load.T10.2 rowlockref06_Load.B10 = true := by kernel_rfl
set_option maxHeartbeats 8000000 in
set_option maxRecDepth 100000 in
theorem rowlockref06_Load.calls (k : Nat) (a0 : ByteArray) (r1 : List ByteArray) (r2 : List Bool) (r3 : Bool) (w : World) (h : rowlockref06_Load.f k a0 = some (r1, r2, r3)) :
  Calls Try.prog 19 #[.string a0] w fun e w' => ∃ v0_ v1_ : Value, e = .returned (.tuple #[.agg #[v0_, v1_], .bool r3]) ∧ Kd.R Kd.string 9 w' w.heap.size (fun _ => True) v0_ r1 ∧ Kd.R Kd.bool 4 w' w.heap.size (fun _ => True) v1_ r2 ∧ Below w.heap.size w w' := by
 have hu32 := Try.underlying32
 have HB := Aside0.mk (Below.refl w.heap.size w)
 have H : (if ((a0.size : Int) % 512) = 0 then (if (wrap64 ((a0.size : Int) / 512)) = 0 then (rowlockref06_Load.j0 k a0 (wrap64 ((a0.size : Int) / 512)) true) else (rowlockref06_Load.j0 k a0 (wrap64 ((a0.size : Int) / 512)) (decide ((wrap64 ((a0.size : Int) / 512)) > 4096)))) else (rowlockref06_Load.j0 k a0 (wrap64 ((a0.size : Int) / 512)) true)) = some (r1, r2, r3) := h
 clear h
 have HC2 := Aside0.mk H
 clear H
 go_enter Try.func19, Try.ntmps19
 go_upto_region 2 with (first | ((with_reducible refine gate_dst (N := 2) rfl ?_); refine box_event ?hg (N := 2) ?hd (cs := #[.slice none 0 0, .slice none 0 0]) (t := 32) ?hr ?_; (case hd => rfl); (case hg => rfl); (case hr => first | (go_simp; done) | (go_simp; rfl)); intro gb108 hg w3 hbox hb; have n0_ := Aside0.mk (below_step (by repeat (first | (with_reducible first | exact HB.out | apply below_alloc | apply pw_below_drewN | apply below_drew1) | exact HB.out)) hb); have n1_ := Aside0.mk (hbox); have n2_ := Aside0.mk ((by rw [hg]; exact (below_size (by repeat (first | (with_reducible first | exact HB.out | apply below_alloc | apply pw_below_drewN | apply below_drew1) | exact HB.out))) : w.heap.size ≤ gb108)); have n3_ := Aside0.mk ((by rw [hg]; exact (below_size (by repeat (first | (with_reducible first | exact HB.out | apply below_alloc | apply pw_below_drewN | apply below_drew1) | exact HB.out))) : w.heap.size ≤ gb108)); clear HB; have HB := n0_; have BK108 := n1_; have GW108 := n2_; have GE108 := n3_; clear n0_ n1_ n2_ n3_; clear hb hbox hg))
 (try simp only [Act.put, List.setIfInBounds_toArray, List.set_cons_zero, List.set_cons_succ])
 go_cut [22] (fun v22 wc => ∃ (kq : Nat) (x22_1 : Bool), v22 = .bool x22_1 ∧ Aside0 (rowlockref06_Load.j0 kq a0 (wrap64 ((a0.size : Int) / 512)) x22_1 = some (r1, r2, r3)) ∧ Aside0 (kq ≤ k) ∧ Aside0 (wc.heap[gb108]? = some (.cells #[(.slice none 0 0), (.slice none 0 0)] 32 (0, 0))) ∧ Aside0 (Below w.heap.size w wc))
 case first =>
  have H := HC2.out
  clear HC2
  by_cases c4 : ((a0.size : Int) % 512) = 0
  ·rw [if_pos c4] at H
   have c4b0 : (((a0.size : Int) % 512) == 0) = true := beq_iff_eq.mpr c4
   have c4b1 : (((a0.size : Int) % 512) != 0) = false := bne_eq_false_iff_eq.mpr c4
   clear c4
   (first | rw [c4b0] | (simp only [i64_w, i32_w]; rw [c4b0]) | skip)
   by_cases c5 : (wrap64 ((a0.size : Int) / 512)) = 0
   ·rw [if_pos c5] at H
    have c5b0 : ((wrap64 ((a0.size : Int) / 512)) == 0) = true := beq_iff_eq.mpr c5
    have c5b1 : ((wrap64 ((a0.size : Int) / 512)) != 0) = false := bne_eq_false_iff_eq.mpr c5
    clear c5
    have H' := Aside0.mk H
    clear H
    go_wp2
    go_meet
    case rel => exact ⟨_, (true), (by first | rfl | (simp; done) | (simp [*]; done)), H', ⟨by first | omega | exact Nat.le_refl _⟩, ⟨by (with_reducible repeat (first | refine blk_drewN ?_ _ | refine blk_drew ?_ | refine blk_alloc ?_ _)); exact BK108.out⟩, ⟨by repeat (first | (with_reducible first | exact HB.out | apply below_alloc | apply pw_below_drewN | apply below_drew1 | refine below_set ?_ GE108.out) | exact HB.out)⟩⟩
   ·rw [if_neg c5] at H
    have c5b0 : ((wrap64 ((a0.size : Int) / 512)) == 0) = false := beq_eq_false_iff_ne.mpr c5
    have c5b1 : ((wrap64 ((a0.size : Int) / 512)) != 0) = true := bne_iff_ne.mpr c5
    have H' := Aside0.mk H
    clear H
    go_wp2
    go_meet
    case rel => exact ⟨_, (decide ((wrap64 ((a0.size : Int) / 512)) > 4096)), (by first | rfl | (simp; done) | (simp [*]; done)), H', ⟨by first | omega | exact Nat.le_refl _⟩, ⟨by (with_reducible repeat (first | refine blk_drewN ?_ _ | refine blk_drew ?_ | refine blk_alloc ?_ _)); exact BK108.out⟩, ⟨by repeat (first | (with_reducible first | exact HB.out | apply below_alloc | apply pw_below_drewN | apply below_drew1 | refine below_set ?_ GE108.out) | exact HB.out)⟩⟩
  ·rw [if_neg c4] at H
   have c4b0 : (((a0.size : Int) % 512) == 0) = false := beq_eq_false_iff_ne.mpr c4
   have c4b1 : (((a0.size : Int) % 512) != 0) = true := bne_iff_ne.mpr c4
   (first | rw [c4b0] | (simp only [i64_w, i32_w]; rw [c4b0]) | skip)
   have H' := Aside0.mk H
   clear H
   go_wp2
   go_meet
   case rel => exact ⟨_, (true), (by first | rfl | (simp; done) | (simp [*]; done)), H', ⟨by first | omega | exact Nat.le_refl _⟩, ⟨by (with_reducible repeat (first | refine blk_drewN ?_ _ | refine blk_drew ?_ | refine blk_alloc ?_ _)); exact BK108.out⟩, ⟨by repeat (first | (with_reducible first | exact HB.out | apply below_alloc | apply pw_below_drewN | apply below_drew1 | refine below_set ?_ GE108.out) | exact HB.out)⟩⟩
 case rest =>
  clear HC2
  try clear c1
  try clear p2
  try clear c4
  try clear c4b0
  try clear c4b1
  try clear c5
  try clear c5b0
  try clear c5b1
  obtain ⟨kq, x22_1, rfl, HA, HJ1, BK108, HB⟩ := hcut
  cases kq with
  | zero => exact absurd HA.out (by simp [rowlockref06_Load.j0])
  | succ kj1 =>
   have H := HA.out
   clear HA
   simp only [rowlockref06_Load.j0] at H
   by_cases c6 : x22_1 = true
   ·subst c6
    have H1 : (some (([] : List ByteArray), ([] : List Bool), false)) = some (r1, r2, r3) := by rw [if_pos rfl] at H; exact H
    clear H
    have H := H1
    clear H1
    simp only [Option.some.injEq, Prod.mk.injEq] at H
    obtain ⟨rfl, rfl, rfl⟩ := H
    have hcz7_0 : wc.cell? ⟨gb108, 0, none⟩ = some (.slice none 0 0) := (blk_cell BK108.out 0).trans rfl
    have hcz7_1 : wc.cell? ⟨gb108, 1, none⟩ = some (.slice none 0 0) := (blk_cell BK108.out 1).trans rfl
    have hfz7_0 := blk_frozen BK108.out 0
    have hfz7_1 := blk_frozen BK108.out 1
    go_wp2
    refine bodyPost_ret (results_ct rfl _ _ gb108 32 #[.slice none 0 0, .slice none 0 0] (0, 0) _ rfl (by (with_reducible repeat (first | refine blk_drewN ?_ _ | refine blk_drew ?_ | refine blk_alloc ?_ _)); refine blk_put (cs := #[.slice none 0 0, .slice none 0 0]) ?_ 1 _ rfl; (with_reducible repeat (first | refine blk_drewN ?_ _ | refine blk_drew ?_ | refine blk_alloc ?_ _)); refine blk_put (cs := #[.slice none 0 0, .slice none 0 0]) ?_ 0 _ rfl; (with_reducible repeat (first | refine blk_drewN ?_ _ | refine blk_drew ?_ | refine blk_alloc ?_ _)); exact BK108.out) Try.underlying32 rfl (by kernel_rfl)) rfl ?_
    exact ⟨_, _, by first | rfl | (simp [errW_none, errW_some] <;> rfl) | (simp [*, errW_none, errW_some] <;> rfl), by first | exact Kd.R_nil _ _ _ _ _ | exact Kd.N_nil _ _ _ _ _ | exact Kd.V_nil _ _ _ _ _ | exact Kd.Q_nil _ _ _ _ _ | exact Kd.S_nil _ _ _ _ _, by first | exact Kd.R_nil _ _ _ _ _ | exact Kd.N_nil _ _ _ _ _ | exact Kd.V_nil _ _ _ _ _ | exact Kd.Q_nil _ _ _ _ _ | exact Kd.S_nil _ _ _ _ _, by repeat (first | (with_reducible first | exact HB.out | apply below_alloc | apply pw_below_drewN | apply below_drew1 | refine below_set ?_ GE108.out) | exact HB.out)⟩
   ·replace c6 := Bool.eq_false_iff.mpr c6
    subst c6
    have H1 : (rowlockref06_Load.l0 kj1 a0 (wrap64 ((a0.size : Int) / 512)) 0 ([] : List ByteArray) ([] : List Bool)) = some (r1, r2, r3) := by rw [if_neg (show ¬ (false = true) by decide)] at H; exact H
    clear H
    have H := H1
    clear H1
    have H' := Aside0.mk H
    clear H
    go_wp2_with (first | ((with_reducible refine gate_dst (N := 5) rfl ?_); refine box_event ?hg (N := 5) ?hd (cs := #[.slice none 0 0, .slice none 0 0]) (t := 32) ?hr ?_; (case hd => rfl); (case hg => rfl); (case hr => first | (go_simp; done) | (go_simp; rfl)); intro gb109 hg w8 hbox hb; have n0_ := Aside0.mk (blk_below (g := gb108) (o := .cells #[.slice none 0 0, .slice none 0 0] 32 (0, 0)) (by (with_reducible repeat (first | refine blk_drewN ?_ _ | refine blk_drew ?_ | refine blk_alloc ?_ _)); exact BK108.out) hb); have n1_ := Aside0.mk (below_step (by repeat (first | (with_reducible first | exact HB.out | apply below_alloc | apply pw_below_drewN | apply below_drew1 | refine below_set ?_ GE108.out) | exact HB.out)) hb); have n2_ := Aside0.mk (hbox); have n3_ := Aside0.mk ((by rw [hg]; exact (below_size (by repeat (first | (with_reducible first | exact HB.out | apply below_alloc | apply pw_below_drewN | apply below_drew1 | refine below_set ?_ GE108.out) | exact HB.out))) : w.heap.size ≤ gb109)); have n4_ := Aside0.mk ((by rw [hg]; exact (below_size (by repeat (first | (with_reducible first | exact HB.out | apply below_alloc | apply pw_below_drewN | apply below_drew1 | refine below_set ?_ GE108.out) | exact HB.out))) : w.heap.size ≤ gb109)); have n5_ := Aside0.mk ((by rw [hg]; exact Nat.ne_of_lt (blk_lt (g := gb108) (o := .cells #[.slice none 0 0, .slice none 0 0] 32 (0, 0)) (by (with_reducible repeat (first | refine blk_drewN ?_ _ | refine blk_drew ?_ | refine blk_alloc ?_ _)); exact BK108.out)) : gb108 ≠ gb109)); have n6_ := Aside0.mk ((by rw [hg]; exact Nat.ne_of_gt (blk_lt (g := gb108) (o := .cells #[.slice none 0 0, .slice none 0 0] 32 (0, 0)) (by (with_reducible repeat (first | refine blk_drewN ?_ _ | refine blk_drew ?_ | refine blk_alloc ?_ _)); exact BK108.out)) : gb109 ≠ gb108)); clear BK108; clear HB; have BK108 := n0_; have HB := n1_; have BK109 := n2_; have GW109 := n3_; have GE109 := n4_; have NB108_109 := n5_; have NB109_108 := n6_; clear n0_ n1_ n2_ n3_ n4_ n5_ n6_; clear hb hbox hg; have hnb9 := NB109_108.out; have hnc9 := NB108_109.out; have hcz10_0 : w8.cell? ⟨gb109, 0, none⟩ = some (.slice none 0 0) := (blk_cell BK109.out 0).trans rfl; have hcz10_1 : w8.cell? ⟨gb109, 1, none⟩ = some (.slice none 0 0) := (blk_cell BK109.out 1).trans rfl; have hfz10_0 := blk_frozen BK109.out 0; have hfz10_1 := blk_frozen BK109.out 1))
    go_loopg [6] kj1 (fun kq v6 w' => ∃ (x6_2 : Int) (x110000_2 : List ByteArray) (x110001_2 : List Bool) (u110000 : Value) (u110001 : Value), v6 = .int .i64 x6_2 ∧ Aside0 (rowlockref06_Load.l0 kq a0 (wrap64 ((a0.size : Int) / 512)) x6_2 x110000_2 x110001_2 = some (r1, r2, r3)) ∧ Aside0 (kq ≤ kj1) ∧ Aside0 (Kd.R Kd.string 9 w' w.heap.size (fun _ => True) u110000 x110000_2) ∧ Aside0 (Kd.R Kd.bool 4 w' w.heap.size (fun _ => True) u110001 x110001_2) ∧ Aside0 (w'.heap[gb108]? = some (.cells #[(.slice none 0 0), (.slice none 0 0)] 32 (0, 0))) ∧ Aside0 (w'.heap[gb109]? = some (.cells #[u110000, u110001] 32 (0, 0))) ∧ Aside0 (Below w.heap.size w w'))
    case atStart => exact ⟨(0), (([] : List ByteArray)), (([] : List Bool)), (.slice none 0 0), (.slice none 0 0), (by first | rfl | (simp; done) | (simp [*]; done)), H', ⟨Nat.le_refl _⟩, ⟨by first | exact Kd.R_nil _ _ _ _ _ | exact Kd.N_nil _ _ _ _ _ | exact Kd.V_nil _ _ _ _ _ | exact Kd.Q_nil _ _ _ _ _ | exact Kd.S_nil _ _ _ _ _⟩, ⟨by first | exact Kd.R_nil _ _ _ _ _ | exact Kd.N_nil _ _ _ _ _ | exact Kd.V_nil _ _ _ _ _ | exact Kd.Q_nil _ _ _ _ _ | exact Kd.S_nil _ _ _ _ _⟩, ⟨by (with_reducible repeat (first | refine blk_drewN ?_ _ | refine blk_drew ?_ | refine blk_alloc ?_ _)); refine blk_far ?_ NB108_109.out _; (with_reducible repeat (first | refine blk_drewN ?_ _ | refine blk_drew ?_ | refine blk_alloc ?_ _)); refine blk_far ?_ NB108_109.out _; (with_reducible repeat (first | refine blk_drewN ?_ _ | refine blk_drew ?_ | refine blk_alloc ?_ _)); exact BK108.out⟩, ⟨by (with_reducible repeat (first | refine blk_drewN ?_ _ | refine blk_drew ?_ | refine blk_alloc ?_ _)); refine blk_put (cs := #[.slice none 0 0, .slice none 0 0]) ?_ 1 _ rfl; (with_reducible repeat (first | refine blk_drewN ?_ _ | refine blk_drew ?_ | refine blk_alloc ?_ _)); refine blk_put (cs := #[.slice none 0 0, .slice none 0 0]) ?_ 0 _ rfl; (with_reducible repeat (first | refine blk_drewN ?_ _ | refine blk_drew ?_ | refine blk_alloc ?_ _)); exact BK109.out⟩, ⟨by repeat (first | (with_reducible first | exact HB.out | apply below_alloc | apply pw_below_drewN | apply below_drew1 | refine below_set ?_ GE108.out | refine below_set ?_ GE109.out) | exact HB.out)⟩⟩
    case round =>
     clear H'
     try clear c1
     try clear p2
     try clear c4
     try clear c4b0
     try clear c4b1
     try clear c5
     try clear c5b0
     try clear c5b1
     try clear c6
     try clear p6
     try clear c9
     try clear hcz10_0
     try clear hcz10_1
     try clear hcz7_0
     try clear hcz7_1
     try clear hfz10_0
     try clear hfz10_1
     try clear hfz7_0
     try clear hfz7_1
     try clear p2
     obtain ⟨x6_2, x110000_2, x110001_2, u110000, u110001, rfl, HA, HK2, HO_110000, HO_110001, BK108, BK109, HB⟩ := hrel
     cases gk with
     | zero => exact absurd HA.out (by simp [rowlockref06_Load.l0])
     | succ k2 =>
      have H := HA.out
      clear HA
      simp only [rowlockref06_Load.l0] at H
      by_cases c11 : x6_2 < (wrap64 ((a0.size : Int) / 512))
      ·rw [if_pos c11] at H
       have c11b0 : decide (x6_2 < (wrap64 ((a0.size : Int) / 512))) = true := decide_eq_true c11
       clear c11
       obtain ⟨ji12, hji12⟩ : ∃ j_ : Int, (wrap64 (512 * x6_2)) = j_ := ⟨_, rfl⟩
       replace H : (if 0 ≤ (ji12) then (if (ji12) ≤ (wrap64 ((ji12) + 512)) then (if (wrap64 ((ji12) + 512)) ≤ (a0.size : Int) then (if x110000_2.length < 8796093022208 then ((some (x110000_2 ++ [a0.extract ((ji12) : Int).toNat ((wrap64 ((ji12) + 512)) : Int).toNat] : List ByteArray)).bind fun y110 => (if x6_2 = 0 then (if x110001_2.length < 140737488355328 then (rowlockref06_Load.l0 k2 a0 (wrap64 ((a0.size : Int) / 512)) (wrap64 (x6_2 + 1)) y110 (x110001_2 ++ [true])) else (none)) else (if 0 < ((a0.extract ((ji12) : Int).toNat ((wrap64 ((ji12) + 512)) : Int).toNat).size : Int) then (if x110001_2.length < 140737488355328 then (rowlockref06_Load.l0 k2 a0 (wrap64 ((a0.size : Int) / 512)) (wrap64 (x6_2 + 1)) y110 (x110001_2 ++ [((bt (a0.extract ((ji12) : Int).toNat ((wrap64 ((ji12) + 512)) : Int).toNat) 0) != 0)])) else (none)) else (none)))) else (none)) else (none)) else (none)) else (none)) = some (r1, r2, r3) := by first | (rw [hji12] at H; exact H) | (simp only [hji12] at H ⊢; exact H)
       have hji12w : (IntKind.i64.wrap (512 * x6_2)) = ji12 := (i64_w _).trans hji12
       by_cases c13 : 0 ≤ (ji12)
       ·rw [if_pos c13] at H
        have c13b0 := eq_true c13
        have c13b1 : decide (0 ≤ (ji12)) = true := decide_eq_true c13
        clear c13
        by_cases c14 : (ji12) ≤ (wrap64 ((ji12) + 512))
        ·rw [if_pos c14] at H
         have c14b0 := eq_true c14
         have c14b1 : decide ((ji12) ≤ (wrap64 ((ji12) + 512))) = true := decide_eq_true c14
         by_cases c15 : (wrap64 ((ji12) + 512)) ≤ (a0.size : Int)
         ·rw [if_pos c15] at H
          have c15b0 := eq_true c15
          have c15b1 : decide ((wrap64 ((ji12) + 512)) ≤ (a0.size : Int)) = true := decide_eq_true c15
          by_cases c16 : x110000_2.length < 8796093022208
          ·rw [if_pos c16] at H
           have LMc16 := Aside0.mk c16
           clear c16
           obtain ⟨y110, hy110⟩ : ∃ y_ : List ByteArray, y_ = (x110000_2 ++ [a0.extract ((ji12) : Int).toNat ((wrap64 ((ji12) + 512)) : Int).toNat]) := ⟨_, rfl⟩
           replace H : (if x6_2 = 0 then (if x110001_2.length < 140737488355328 then (rowlockref06_Load.l0 k2 a0 (wrap64 ((a0.size : Int) / 512)) (wrap64 (x6_2 + 1)) y110 (x110001_2 ++ [true])) else (none)) else (if 0 < ((a0.extract ((ji12) : Int).toNat ((wrap64 ((ji12) + 512)) : Int).toNat).size : Int) then (if x110001_2.length < 140737488355328 then (rowlockref06_Load.l0 k2 a0 (wrap64 ((a0.size : Int) / 512)) (wrap64 (x6_2 + 1)) y110 (x110001_2 ++ [((bt (a0.extract ((ji12) : Int).toNat ((wrap64 ((ji12) + 512)) : Int).toNat) 0) != 0)])) else (none)) else (none))) = some (r1, r2, r3) := by first | (rw [hy110]; with_reducible exact H) | (have H2_ := (Option.bind_some _ _).symm.trans H; rw [hy110]; with_reducible exact H2_) | (have H2_ := (Option.bind_some _ _).symm.trans H; with_reducible exact H2_) | with_reducible exact H | (rw [hy110]; exact H) | exact H
           have Ny110 := Aside0.mk hy110
           clear hy110
           by_cases c17 : x6_2 = 0
           ·rw [if_pos c17] at H
            have c17b0 : (x6_2 == 0) = true := beq_iff_eq.mpr c17
            have c17b1 : (x6_2 != 0) = false := bne_eq_false_iff_eq.mpr c17
            clear c17
            by_cases c18 : x110001_2.length < 140737488355328
            ·rw [if_pos c18] at H
             have LMc18 := Aside0.mk c18
             clear c18
             obtain ⟨y113, hy113⟩ : ∃ y_ : List Bool, y_ = (x110001_2 ++ [true]) := ⟨_, rfl⟩
             replace H : (rowlockref06_Load.l0 k2 a0 (wrap64 ((a0.size : Int) / 512)) (wrap64 (x6_2 + 1)) y110 y113) = some (r1, r2, r3) := by first | (rw [hy113]; with_reducible exact H) | (have H2_ := (Option.bind_some _ _).symm.trans H; rw [hy113]; with_reducible exact H2_) | (have H2_ := (Option.bind_some _ _).symm.trans H; with_reducible exact H2_) | with_reducible exact H | (rw [hy113]; exact H) | exact H
             have Ny113 := Aside0.mk hy113
             clear hy113
             have H' := Aside0.mk H
             clear H
             have hnb19 := NB109_108.out
             have hnc19 := NB108_109.out
             have hcz20_0 : wr.cell? ⟨gb109, 0, none⟩ = some (u110000) := (blk_cell BK109.out 0).trans rfl
             have hcz20_1 : wr.cell? ⟨gb109, 1, none⟩ = some (u110001) := (blk_cell BK109.out 1).trans rfl
             have hfz20_0 := blk_frozen BK109.out 0
             have hfz20_1 := blk_frozen BK109.out 1
             try go_wp2_with (first | ((with_reducible refine gate_builtin (b := .append) (xs := #[.tmp 38, .tmp 40]) rfl ?_); at_builtin; refine Kd.R_append Kd.string (w0 := w) w.heap.size rfl (.tmp 38) (.tmp 40) 29 9 (.string ⟨#[]⟩) 16 rfl Try.underlying29 info9 rfl (by decide) (by omega) u110000 x110000_2 (a0.extract ((ji12) : Int).toNat ((wrap64 ((ji12) + 512)) : Int).toNat) [.string (a0.extract ((ji12) : Int).toNat ((wrap64 ((ji12) + 512)) : Int).toNat)] (fun _ => True) (fun _ => False) rfl rfl ?aP (fun _ hk => hk.elim) ?aF ?aO ?aB ?aS ?aL ?_; (case aP => exact rfl); (case aB => exact (by repeat (first | (with_reducible first | exact HB.out | apply below_alloc | apply pw_below_drewN | apply below_drew1 | refine below_set ?_ GE108.out | refine below_set ?_ GE109.out) | exact HB.out))); (case aF => exact (fun _ _ => trivial)); (case aO => exact (by (with_reducible repeat (first | apply Kd.R_alloc | apply Kd.R_drewN | apply Kd.R_drew)); exact HO_110000.out)); (case aS => exact (below_size (by repeat (first | (with_reducible first | exact HB.out | apply below_alloc | apply pw_below_drewN | apply below_drew1 | refine below_set ?_ GE108.out | refine below_set ?_ GE109.out) | exact HB.out)))); (case aL => have := LMc16.out; omega); intro v111 w21 ho hb hg hat; rw [← Ny110.out] at ho; have n0_ := Aside0.mk (Kd.R_over' (by (with_reducible repeat (first | apply Kd.R_alloc | apply Kd.R_drewN | apply Kd.R_drew)); exact HO_110001.out) (Kd.R_typed (by (with_reducible repeat (first | apply Kd.R_alloc | apply Kd.R_drewN | apply Kd.R_drew)); exact HO_110000.out)) (by decide) hg); have n1_ := Aside0.mk (blk_grown (g := gb108) (o := .cells #[.slice none 0 0, .slice none 0 0] 32 (0, 0)) (by (with_reducible repeat (first | refine blk_drewN ?_ _ | refine blk_drew ?_ | refine blk_alloc ?_ _)); exact BK108.out) hg (Kd.R_ne HO_110000.out BK108.out (by decide))); have n2_ := Aside0.mk (blk_grown (g := gb109) (o := .cells #[u110000, u110001] 32 (0, 0)) (by (with_reducible repeat (first | refine blk_drewN ?_ _ | refine blk_drew ?_ | refine blk_alloc ?_ _)); exact BK109.out) hg (Kd.R_ne HO_110000.out BK109.out (by decide))); have n3_ := Aside0.mk (hb); have n4_ := Aside0.mk (ho); clear HO_110001; clear BK108; clear BK109; clear HB; clear HO_110000; have HO_110001 := n0_; have BK108 := n1_; have BK109 := n2_; have HB := n3_; have HO112 := n4_; clear n0_ n1_ n2_ n3_ n4_; clear ho hb hg hat; obtain ⟨Ao22, co22, eo22⟩ := Kd.R_slice HO112.out; subst eo22; have hcz23_0 : w21.cell? ⟨gb109, 0, none⟩ = some (u110000) := (blk_cell BK109.out 0).trans rfl; have hcz23_1 : w21.cell? ⟨gb109, 1, none⟩ = some (u110001) := (blk_cell BK109.out 1).trans rfl; have hfz23_0 := blk_frozen BK109.out 0; have hfz23_1 := blk_frozen BK109.out 1))
             have n0_ : Aside0 (Kd.R Kd.bool 4 (w21.setCell ⟨gb109, 0, none⟩ (.slice Ao22 y110.length co22)) w.heap.size (fun _ => True) u110001 x110001_2) := ⟨by (with_reducible repeat (first | apply Kd.R_alloc | apply Kd.R_drewN | apply Kd.R_drew)); exact Kd.R_mono (Kd.R_far (p := ⟨gb109, 0, none⟩) (Kd.R_types HO_110001.out BK109.out (by decide)) (fun _ hk => hk.2) (.slice Ao22 y110.length co22)) (fun _ hk => trivial)⟩
             have n1_ : Aside0 (Kd.R Kd.string 9 (w21.setCell ⟨gb109, 0, none⟩ (.slice Ao22 y110.length co22)) w.heap.size (fun _ => True) (.slice Ao22 y110.length co22) y110) := ⟨by (with_reducible repeat (first | apply Kd.R_alloc | apply Kd.R_drewN | apply Kd.R_drew)); exact Kd.R_mono (Kd.R_far (p := ⟨gb109, 0, none⟩) (Kd.R_types HO112.out BK109.out (by decide)) (fun _ hk => hk.2) (.slice Ao22 y110.length co22)) (fun _ hk => trivial)⟩
             have n2_ : Aside0 ((w21.setCell ⟨gb109, 0, none⟩ (.slice Ao22 y110.length co22)).heap[gb108]? = some (.cells #[.slice none 0 0, .slice none 0 0] 32 (0, 0))) := ⟨by (with_reducible repeat (first | refine blk_drewN ?_ _ | refine blk_drew ?_ | refine blk_alloc ?_ _)); refine blk_far ?_ NB108_109.out _; (with_reducible repeat (first | refine blk_drewN ?_ _ | refine blk_drew ?_ | refine blk_alloc ?_ _)); exact BK108.out⟩
             have n3_ : Aside0 ((w21.setCell ⟨gb109, 0, none⟩ (.slice Ao22 y110.length co22)).heap[gb109]? = some (.cells #[.slice Ao22 y110.length co22, u110001] 32 (0, 0))) := ⟨by (with_reducible repeat (first | refine blk_drewN ?_ _ | refine blk_drew ?_ | refine blk_alloc ?_ _)); refine blk_put (cs := #[u110000, u110001]) ?_ 0 _ rfl; (with_reducible repeat (first | refine blk_drewN ?_ _ | refine blk_drew ?_ | refine blk_alloc ?_ _)); exact BK109.out⟩
             have n4_ : Aside0 (Below w.heap.size w (w21.setCell ⟨gb109, 0, none⟩ (.slice Ao22 y110.length co22))) := ⟨by repeat (first | (with_reducible first | exact HB.out | apply below_alloc | apply pw_below_drewN | apply below_drew1 | refine below_set ?_ GE108.out | refine below_set ?_ GE109.out) | exact HB.out)⟩
             (try clear HO_110001)
             (try clear HO112)
             (try clear BK108)
             (try clear BK109)
             (try clear HB)
             generalize (w21.setCell ⟨gb109, 0, none⟩ (.slice Ao22 y110.length co22)) = w24 at n0_ n1_ n2_ n3_ n4_ ⊢
             have HO_110001 := n0_
             have HO112 := n1_
             have BK108 := n2_
             have BK109 := n3_
             have HB := n4_
             clear n0_ n1_ n2_ n3_ n4_
             have n0_ := Aside0.mk (Kd.R_drew HO_110001.out)
             have n1_ := Aside0.mk (Kd.R_drew HO112.out)
             have n2_ := Aside0.mk (blk_drew BK108.out)
             have n3_ := Aside0.mk (blk_drew BK109.out)
             have n4_ := Aside0.mk (below_drew1 HB.out)
             clear HO_110001
             clear HO112
             clear BK108
             clear BK109
             clear HB
             have HO_110001 := n0_
             have HO112 := n1_
             have BK108 := n2_
             have BK109 := n3_
             have HB := n4_
             clear n0_ n1_ n2_ n3_ n4_
             refine start_ (n := 13) (S := fun w' => w'.cell? ⟨gb109, 0, none⟩ = some (.slice Ao22 y110.length co22) ∧ w'.cell? ⟨gb109, 1, none⟩ = some (u110001)) (ds := [12]) #[false, false, false, false, false, false, false, false, false, false, false, false, false] (by kernel_rfl) rfl rfl ⟨(blk_cell BK109.out 0).trans rfl, (blk_cell BK109.out 1).trans rfl⟩ (fun hHeld => ?_); refine with_tabW rowlockref06_Load.tab10 rowlockref06_Load.bits10 (fun HT_ HW_ => ?_)
             generalize w24.drew = w25 at HO_110001 HO112 BK108 BK109 HB hHeld ⊢
             refine pure_ (i := 0) (N := some 43) (v := ?_) (a' := ?_) #[true, false, false, false, false, false, false, false, false, false, false, false, false] rfl rfl (any_of HT_.out (by kernel_rfl)) (fun _ _ _ h => h) (Or.inl ⟨by rfl, ?_⟩) ?_ ?_
             rotate_left
             ·intro w'
              go_simp
              with_reducible rfl
             rotate_left
             ·simp only [Act.put, List.setIfInBounds_toArray, List.set_cons_zero, List.set_cons_succ, i64_w, i32_w]
              rfl
             refine pure_ (i := 2) (N := some 45) (v := ?_) (a' := ?_) #[true, false, true, false, false, false, false, false, false, false, false, false, false] rfl rfl (any_of HT_.out (by kernel_rfl)) (fun _ _ _ h => h) (Or.inl ⟨by rfl, ?_⟩) ?_ ?_
             rotate_left
             ·intro w'
              go_simp
              with_reducible rfl
             rotate_left
             ·simp only [Act.put, List.setIfInBounds_toArray, List.set_cons_zero, List.set_cons_succ, i64_w, i32_w]
              rfl
             refine pure_ (i := 3) (N := some 46) (v := ?_) (a' := ?_) #[true, false, true, true, false, false, false, false, false, false, false, false, false] rfl rfl (any_of HT_.out (by kernel_rfl)) (fun _ _ _ h => h) (Or.inl ⟨by rfl, ?_⟩) ?_ ?_
             rotate_left
             ·intro w'
              go_simp
              with_reducible rfl
             rotate_left
             ·simp only [Act.put, List.setIfInBounds_toArray, List.set_cons_zero, List.set_cons_succ, i64_w, i32_w]
              rfl
             refine pure_ (i := 4) (N := some 47) (v := ?_) (a' := ?_) #[true, false, true, true, true, false, false, false, false, false, false, false, false] rfl rfl (any_of HT_.out (by kernel_rfl)) (fun _ _ _ h => h) (Or.inl ⟨by rfl, ?_⟩) ?_ ?_
             rotate_left
             ·intro w'
              go_simp
              with_reducible rfl
             rotate_left
             ·simp only [Act.put, List.setIfInBounds_toArray, List.set_cons_zero, List.set_cons_succ, i64_w, i32_w]
              rfl
             refine pure_ (i := 5) (N := some 48) (v := undef) (a' := ?_) #[true, false, true, true, true, true, false, false, false, false, false, false, false] rfl rfl (any_of HT_.out (by kernel_rfl)) (fun _ _ _ h => h) (Or.inr ⟨by rfl, rfl⟩) ?_ ?_
             rotate_left
             ·simp only [Act.put, List.setIfInBounds_toArray, List.set_cons_zero, List.set_cons_succ, i64_w, i32_w]
              rfl
             refine pure_ (i := 6) (N := some 49) (v := undef) (a' := ?_) #[true, false, true, true, true, true, true, false, false, false, false, false, false] rfl rfl (any_of HT_.out (by kernel_rfl)) (fun _ _ _ h => h) (Or.inr ⟨by rfl, rfl⟩) ?_ ?_
             rotate_left
             ·simp only [Act.put, List.setIfInBounds_toArray, List.set_cons_zero, List.set_cons_succ, i64_w, i32_w]
              rfl
             refine pure_ (i := 7) (N := some 50) (v := undef) (a' := ?_) #[true, false, true, true, true, true, true, true, false, false, false, false, false] rfl rfl (any_of HT_.out (by kernel_rfl)) (fun _ _ _ h => h) (Or.inr ⟨by rfl, rfl⟩) ?_ ?_
             rotate_left
             ·simp only [Act.put, List.setIfInBounds_toArray, List.set_cons_zero, List.set_cons_succ, i64_w, i32_w]
              rfl
             refine pure_ (i := 8) (N := some 51) (v := ?_) (a' := ?_) #[true, false, true, true, true, true, true, true, true, false, false, false, false] rfl rfl (any_of HT_.out (by kernel_rfl)) (fun _ _ _ h => h) (Or.inl ⟨by rfl, ?_⟩) ?_ ?_
             rotate_left
             ·intro w'
              go_simp
              with_reducible rfl
             rotate_left
             ·simp only [Act.put, List.setIfInBounds_toArray, List.set_cons_zero, List.set_cons_succ, i64_w, i32_w]
              rfl
             refine take_ (i := 1) (N := some 44) (v := ?_) (a' := ?_) #[true, true, true, true, true, true, true, true, true, false, false, false, false] rfl rfl (take_ofW HT_.out HW_.out (by kernel_rfl)) (fun _ _ _ h => h) (Or.inl ⟨by rfl, ?_⟩) hHeld ?_ ?_
             rotate_left
             ·rintro w' ⟨s0, s1⟩
              go_simp
              with_reducible rfl
             rotate_left
             ·simp only [Act.put, List.setIfInBounds_toArray, List.set_cons_zero, List.set_cons_succ, i64_w, i32_w]
              rfl
             refine one_ (i := 9) (N := some 52) #[true, true, true, true, true, true, true, true, true, true, false, false, false] rfl rfl (one_of HT_.out (by kernel_rfl)) (by decide) (fun K hK => ?_)
             refine value_ (w1 := ?_) (v := ?_) (by rfl) rfl ?_ ?_
             rotate_left 2
             ·go_simp
              constructor
              ·rfl
              ·rfl
             refine hK.out _ _ ⟨(blk_cell (blk_alloc BK109.out _) 0).trans rfl, (blk_cell (blk_alloc BK109.out _) 1).trans rfl⟩ (fun hHeld => ?_)
             clear hK K
             refine norm_ (a' := ?_) ?_ ?_
             rotate_left
             ·show Act.put _ (some 52) _ = _
              simp only [Act.put, List.setIfInBounds_toArray, List.set_cons_zero, List.set_cons_succ, i64_w, i32_w]
              rfl
             refine one_ (i := 10) (N := some 53) #[true, true, true, true, true, true, true, true, true, true, true, false, false] rfl rfl (one_of HT_.out (by kernel_rfl)) (by decide) (fun K hK => ?_)
             refine Kd.R_append_step Kd.bool (w0 := w) w.heap.size (by rfl) (.tmp 44) (.tmp 52) 30 4 (.bool false) 1 rfl Try.underlying30 info4 rfl (by decide) (by omega) u110001 x110001_2 true [.bool true] (fun _ => True) (fun _ => False) rfl rfl ?aP (fun _ hk => hk.elim) ?aF ?aO ?aB ?aS ?aL ?_
             (case aP => exact rfl)
             (case aB => exact (by repeat (first | (with_reducible first | exact HB.out | apply below_alloc | apply pw_below_drewN | apply below_drew1 | refine below_set ?_ GE108.out | refine below_set ?_ GE109.out) | exact HB.out)))
             (case aF => exact (fun _ _ => trivial))
             (case aO => exact (by (with_reducible repeat (first | apply Kd.R_alloc | apply Kd.R_drewN | apply Kd.R_drew)); exact HO_110001.out))
             (case aS => exact (below_size (by repeat (first | (with_reducible first | exact HB.out | apply below_alloc | apply pw_below_drewN | apply below_drew1 | refine below_set ?_ GE108.out | refine below_set ?_ GE109.out) | exact HB.out))))
             (case aL => have := LMc18.out; omega)
             intro v114 w26 ho hb hg hat
             rw [← Ny113.out] at ho
             have n0_ := Aside0.mk (blk_grown (g := gb108) (o := .cells #[.slice none 0 0, .slice none 0 0] 32 (0, 0)) (by (with_reducible repeat (first | refine blk_drewN ?_ _ | refine blk_drew ?_ | refine blk_alloc ?_ _)); exact BK108.out) hg (Kd.R_ne HO_110001.out BK108.out (by decide)))
             have n1_ := Aside0.mk (blk_grown (g := gb109) (o := .cells #[.slice Ao22 y110.length co22, u110001] 32 (0, 0)) (by (with_reducible repeat (first | refine blk_drewN ?_ _ | refine blk_drew ?_ | refine blk_alloc ?_ _)); exact BK109.out) hg (Kd.R_ne HO_110001.out BK109.out (by decide)))
             have n2_ := Aside0.mk (Kd.R_over' (by (with_reducible repeat (first | apply Kd.R_alloc | apply Kd.R_drewN | apply Kd.R_drew)); exact HO112.out) (Kd.R_typed (by (with_reducible repeat (first | apply Kd.R_alloc | apply Kd.R_drewN | apply Kd.R_drew)); exact HO_110001.out)) (by decide) hg)
             have n3_ := Aside0.mk (hb)
             have n4_ := Aside0.mk (ho)
             clear BK108
             clear BK109
             clear HO112
             clear HB
             clear HO_110001
             have BK108 := n0_
             have BK109 := n1_
             have HO112 := n2_
             have HB := n3_
             have HO115 := n4_
             clear n0_ n1_ n2_ n3_ n4_
             clear ho hb hg hat
             obtain ⟨Ao27, co27, eo27⟩ := Kd.R_slice HO115.out
             (first | subst eo27 | (injection eo27 with f1_ f2_ f3_; have f4_ := f1_.symm; have f5_ := f3_.symm; clear f1_ f2_ f3_; subst f4_; subst f5_))
             refine hK.out _ _ ⟨(blk_cell BK109.out 0).trans rfl, (blk_cell BK109.out 1).trans rfl⟩ (fun hHeld => ?_)
             clear hK K
             refine norm_ (a' := ?_) ?_ ?_
             rotate_left
             ·show Act.put _ (some 53) _ = _
              simp only [Act.put, List.setIfInBounds_toArray, List.set_cons_zero, List.set_cons_succ, i64_w, i32_w]
              rfl
             refine pure_ (i := 11) (N := some 54) (v := ?_) (a' := ?_) #[true, true, true, true, true, true, true, true, true, true, true, true, false] rfl rfl (any_of HT_.out (by kernel_rfl)) (fun _ _ _ h => h) (Or.inl ⟨by rfl, ?_⟩) ?_ ?_
             rotate_left
             ·intro w'
              go_simp
              with_reducible rfl
             rotate_left
             ·simp only [Act.put, List.setIfInBounds_toArray, List.set_cons_zero, List.set_cons_succ, i64_w, i32_w]
              rfl
             refine last_ (i := 12) (N := none) #[true, true, true, true, true, true, true, true, true, true, true, true, true] rfl rfl (one_of HT_.out (by kernel_rfl)) (by decide) (fun K hK => ?_)
             have hs28 : w26.cell? ⟨gb109, 1, none⟩ = some (u110001) := (blk_cell BK109.out 1).trans rfl
             have hfs28 := blk_frozen BK109.out 1
             have hns28_0 := NB108_109.out
             have hms28_0 := NB109_108.out
             refine skip_ (w1 := ?_) (by rfl) rfl ?_ ?_
             rotate_left
             ·go_simp
              rfl
             refine hK.out _ _ ?_
             clear hK K
             refine done_ (done_of HT_.out (by kernel_rfl)) ?_
             try go_wp2
             go_roundg k2
             case measure => have := HJ1.out; have := HK2.out; omega
             case rel => exact ⟨(wrap64 (x6_2 + 1)), (y110), (y113), (.slice Ao22 y110.length co22), (.slice Ao27 y113.length co27), (by first | rfl | (simp; done) | (simp [*]; done)), H', ⟨by have := HJ1.out; have := HK2.out; omega⟩, ⟨by (with_reducible repeat (first | apply Kd.R_alloc | apply Kd.R_drewN | apply Kd.R_drew)); exact Kd.R_mono (Kd.R_far (p := ⟨gb109, 1, none⟩) (Kd.R_types HO112.out BK109.out (by decide)) (fun _ hk => hk.2) (.slice Ao27 y113.length co27)) (fun _ hk => trivial)⟩, ⟨by (with_reducible repeat (first | apply Kd.R_alloc | apply Kd.R_drewN | apply Kd.R_drew)); exact Kd.R_mono (Kd.R_far (p := ⟨gb109, 1, none⟩) (Kd.R_types HO115.out BK109.out (by decide)) (fun _ hk => hk.2) (.slice Ao27 y113.length co27)) (fun _ hk => trivial)⟩, ⟨by (with_reducible repeat (first | refine blk_drewN ?_ _ | refine blk_drew ?_ | refine blk_alloc ?_ _)); refine blk_far ?_ NB108_109.out _; (with_reducible repeat (first | refine blk_drewN ?_ _ | refine blk_drew ?_ | refine blk_alloc ?_ _)); exact BK108.out⟩, ⟨by (with_reducible repeat (first | refine blk_drewN ?_ _ | refine blk_drew ?_ | refine blk_alloc ?_ _)); refine blk_put (cs := #[.slice Ao22 y110.length co22, u110001]) ?_ 1 _ rfl; (with_reducible repeat (first | refine blk_drewN ?_ _ | refine blk_drew ?_ | refine blk_alloc ?_ _)); exact BK109.out⟩, ⟨by repeat (first | (with_reducible first | exact HB.out | apply below_alloc | apply pw_below_drewN | apply below_drew1 | refine below_set ?_ GE108.out | refine below_set ?_ GE109.out) | exact HB.out)⟩⟩
            ·rw [if_neg c18] at H
             exact absurd H (by simp)
           ·rw [if_neg c17] at H
            have c17b0 : (x6_2 == 0) = false := beq_eq_false_iff_ne.mpr c17
            have c17b1 : (x6_2 != 0) = true := bne_iff_ne.mpr c17
            by_cases c29 : 0 < ((a0.extract ((ji12) : Int).toNat ((wrap64 ((ji12) + 512)) : Int).toNat).size : Int)
            ·rw [if_pos c29] at H
             have c29e : (0 < (wrap64 ((ji12) + 512)).toNat - (ji12).toNat) = True := eq_true (by have h_ := c29; rw [ByteArray.size_extract] at h_; omega)
             have c29b0 : decide (0 < ((a0.extract ((ji12) : Int).toNat ((wrap64 ((ji12) + 512)) : Int).toNat).size : Int)) = true := decide_eq_true c29
             have c29b1 : decide (0 < (a0.extract ((ji12) : Int).toNat ((wrap64 ((ji12) + 512)) : Int).toNat).size) = true := decide_eq_true (by omega)
             clear c29
             by_cases c31 : x110001_2.length < 140737488355328
             ·rw [if_pos c31] at H
              have LMc31 := Aside0.mk c31
              clear c31
              obtain ⟨y116, hy116⟩ : ∃ y_ : List Bool, y_ = (x110001_2 ++ [((bt (a0.extract ((ji12) : Int).toNat ((wrap64 ((ji12) + 512)) : Int).toNat) 0) != 0)]) := ⟨_, rfl⟩
              replace H : (rowlockref06_Load.l0 k2 a0 (wrap64 ((a0.size : Int) / 512)) (wrap64 (x6_2 + 1)) y110 y116) = some (r1, r2, r3) := by first | (rw [hy116]; with_reducible exact H) | (have H2_ := (Option.bind_some _ _).symm.trans H; rw [hy116]; with_reducible exact H2_) | (have H2_ := (Option.bind_some _ _).symm.trans H; with_reducible exact H2_) | with_reducible exact H | (rw [hy116]; exact H) | exact H
              have Ny116 := Aside0.mk hy116
              clear hy116
              have H' := Aside0.mk H
              clear H
              have hnb32 := NB109_108.out
              have hnc32 := NB108_109.out
              have hcz33_0 : wr.cell? ⟨gb109, 0, none⟩ = some (u110000) := (blk_cell BK109.out 0).trans rfl
              have hcz33_1 : wr.cell? ⟨gb109, 1, none⟩ = some (u110001) := (blk_cell BK109.out 1).trans rfl
              have hfz33_0 := blk_frozen BK109.out 0
              have hfz33_1 := blk_frozen BK109.out 1
              try go_wp2_with (first | ((with_reducible refine gate_builtin (b := .append) (xs := #[.tmp 38, .tmp 40]) rfl ?_); at_builtin; refine Kd.R_append Kd.string (w0 := w) w.heap.size rfl (.tmp 38) (.tmp 40) 29 9 (.string ⟨#[]⟩) 16 rfl Try.underlying29 info9 rfl (by decide) (by omega) u110000 x110000_2 (a0.extract ((ji12) : Int).toNat ((wrap64 ((ji12) + 512)) : Int).toNat) [.string (a0.extract ((ji12) : Int).toNat ((wrap64 ((ji12) + 512)) : Int).toNat)] (fun _ => True) (fun _ => False) rfl rfl ?aP (fun _ hk => hk.elim) ?aF ?aO ?aB ?aS ?aL ?_; (case aP => exact rfl); (case aB => exact (by repeat (first | (with_reducible first | exact HB.out | apply below_alloc | apply pw_below_drewN | apply below_drew1 | refine below_set ?_ GE108.out | refine below_set ?_ GE109.out) | exact HB.out))); (case aF => exact (fun _ _ => trivial)); (case aO => exact (by (with_reducible repeat (first | apply Kd.R_alloc | apply Kd.R_drewN | apply Kd.R_drew)); exact HO_110000.out)); (case aS => exact (below_size (by repeat (first | (with_reducible first | exact HB.out | apply below_alloc | apply pw_below_drewN | apply below_drew1 | refine below_set ?_ GE108.out | refine below_set ?_ GE109.out) | exact HB.out)))); (case aL => have := LMc16.out; omega); intro v111 w34 ho hb hg hat; rw [← Ny110.out] at ho; have n0_ := Aside0.mk (Kd.R_over' (by (with_reducible repeat (first | apply Kd.R_alloc | apply Kd.R_drewN | apply Kd.R_drew)); exact HO_110001.out) (Kd.R_typed (by (with_reducible repeat (first | apply Kd.R_alloc | apply Kd.R_drewN | apply Kd.R_drew)); exact HO_110000.out)) (by decide) hg); have n1_ := Aside0.mk (blk_grown (g := gb108) (o := .cells #[.slice none 0 0, .slice none 0 0] 32 (0, 0)) (by (with_reducible repeat (first | refine blk_drewN ?_ _ | refine blk_drew ?_ | refine blk_alloc ?_ _)); exact BK108.out) hg (Kd.R_ne HO_110000.out BK108.out (by decide))); have n2_ := Aside0.mk (blk_grown (g := gb109) (o := .cells #[u110000, u110001] 32 (0, 0)) (by (with_reducible repeat (first | refine blk_drewN ?_ _ | refine blk_drew ?_ | refine blk_alloc ?_ _)); exact BK109.out) hg (Kd.R_ne HO_110000.out BK109.out (by decide))); have n3_ := Aside0.mk (hb); have n4_ := Aside0.mk (ho); clear HO_110001; clear BK108; clear BK109; clear HB; clear HO_110000; have HO_110001 := n0_; have BK108 := n1_; have BK109 := n2_; have HB := n3_; have HO112 := n4_; clear n0_ n1_ n2_ n3_ n4_; clear ho hb hg hat; obtain ⟨Ao35, co35, eo35⟩ := Kd.R_slice HO112.out; subst eo35; have hcz36_0 : w34.cell? ⟨gb109, 0, none⟩ = some (u110000) := (blk_cell BK109.out 0).trans rfl; have hcz36_1 : w34.cell? ⟨gb109, 1, none⟩ = some (u110001) := (blk_cell BK109.out 1).trans rfl; have hfz36_0 := blk_frozen BK109.out 0; have hfz36_1 := blk_frozen BK109.out 1))
              have n0_ : Aside0 (Kd.R Kd.bool 4 (w34.setCell ⟨gb109, 0, none⟩ (.slice Ao35 y110.length co35)) w.heap.size (fun _ => True) u110001 x110001_2) := ⟨by (with_reducible repeat (first | apply Kd.R_alloc | apply Kd.R_drewN | apply Kd.R_drew)); exact Kd.R_mono (Kd.R_far (p := ⟨gb109, 0, none⟩) (Kd.R_types HO_110001.out BK109.out (by decide)) (fun _ hk => hk.2) (.slice Ao35 y110.length co35)) (fun _ hk => trivial)⟩
              have n1_ : Aside0 (Kd.R Kd.string 9 (w34.setCell ⟨gb109, 0, none⟩ (.slice Ao35 y110.length co35)) w.heap.size (fun _ => True) (.slice Ao35 y110.length co35) y110) := ⟨by (with_reducible repeat (first | apply Kd.R_alloc | apply Kd.R_drewN | apply Kd.R_drew)); exact Kd.R_mono (Kd.R_far (p := ⟨gb109, 0, none⟩) (Kd.R_types HO112.out BK109.out (by decide)) (fun _ hk => hk.2) (.slice Ao35 y110.length co35)) (fun _ hk => trivial)⟩
              have n2_ : Aside0 ((w34.setCell ⟨gb109, 0, none⟩ (.slice Ao35 y110.length co35)).heap[gb108]? = some (.cells #[.slice none 0 0, .slice none 0 0] 32 (0, 0))) := ⟨by (with_reducible repeat (first | refine blk_drewN ?_ _ | refine blk_drew ?_ | refine blk_alloc ?_ _)); refine blk_far ?_ NB108_109.out _; (with_reducible repeat (first | refine blk_drewN ?_ _ | refine blk_drew ?_ | refine blk_alloc ?_ _)); exact BK108.out⟩
              have n3_ : Aside0 ((w34.setCell ⟨gb109, 0, none⟩ (.slice Ao35 y110.length co35)).heap[gb109]? = some (.cells #[.slice Ao35 y110.length co35, u110001] 32 (0, 0))) := ⟨by (with_reducible repeat (first | refine blk_drewN ?_ _ | refine blk_drew ?_ | refine blk_alloc ?_ _)); refine blk_put (cs := #[u110000, u110001]) ?_ 0 _ rfl; (with_reducible repeat (first | refine blk_drewN ?_ _ | refine blk_drew ?_ | refine blk_alloc ?_ _)); exact BK109.out⟩
              have n4_ : Aside0 (Below w.heap.size w (w34.setCell ⟨gb109, 0, none⟩ (.slice Ao35 y110.length co35))) := ⟨by repeat (first | (with_reducible first | exact HB.out | apply below_alloc | apply pw_below_drewN | apply below_drew1 | refine below_set ?_ GE108.out | refine below_set ?_ GE109.out) | exact HB.out)⟩
              (try clear HO_110001)
              (try clear HO112)
              (try clear BK108)
              (try clear BK109)
              (try clear HB)
              generalize (w34.setCell ⟨gb109, 0, none⟩ (.slice Ao35 y110.length co35)) = w37 at n0_ n1_ n2_ n3_ n4_ ⊢
              have HO_110001 := n0_
              have HO112 := n1_
              have BK108 := n2_
              have BK109 := n3_
              have HB := n4_
              clear n0_ n1_ n2_ n3_ n4_
              have n0_ := Aside0.mk (Kd.R_drew HO_110001.out)
              have n1_ := Aside0.mk (Kd.R_drew HO112.out)
              have n2_ := Aside0.mk (blk_drew BK108.out)
              have n3_ := Aside0.mk (blk_drew BK109.out)
              have n4_ := Aside0.mk (below_drew1 HB.out)
              clear HO_110001
              clear HO112
              clear BK108
              clear BK109
              clear HB
              have HO_110001 := n0_
              have HO112 := n1_
              have BK108 := n2_
              have BK109 := n3_
              have HB := n4_
              clear n0_ n1_ n2_ n3_ n4_
              have p30 : 0 ≤ (0 : Int) := (by omega)
              have q30 : 0 < (a0.extract ((ji12) : Int).toNat ((wrap64 ((ji12) + 512)) : Int).toNat).size := (by have : (0 : Int) < ((a0.extract ((ji12) : Int).toNat ((wrap64 ((ji12) + 512)) : Int).toNat).size : Int) := of_decide_eq_true (by first | (with_reducible assumption) | assumption); omega)
              have hx30 : ∀ h : 0 < (a0.extract ((ji12) : Int).toNat ((wrap64 ((ji12) + 512)) : Int).toNat).size, (((a0.extract ((ji12) : Int).toNat ((wrap64 ((ji12) + 512)) : Int).toNat)[0]'h).toNat : Int) = bt (a0.extract ((ji12) : Int).toNat ((wrap64 ((ji12) + 512)) : Int).toNat) 0 := bt_at (a0.extract ((ji12) : Int).toNat ((wrap64 ((ji12) + 512)) : Int).toNat) 0
              clear p30
              have qi30 : (0 < ((a0.extract ((ji12) : Int).toNat ((wrap64 ((ji12) + 512)) : Int).toNat).size : Int)) = True := eq_true (of_decide_eq_true (by first | (with_reducible assumption) | assumption))
              replace q30 := eq_true q30
              have q30D := q30; try simp only [List.length_drop, List.length_take] at q30D
              refine start_ (n := 13) (S := fun w' => w'.cell? ⟨gb109, 0, none⟩ = some (.slice Ao35 y110.length co35) ∧ w'.cell? ⟨gb109, 1, none⟩ = some (u110001)) (ds := [12]) #[false, false, false, false, false, false, false, false, false, false, false, false, false] (by kernel_rfl) rfl rfl ⟨(blk_cell BK109.out 0).trans rfl, (blk_cell BK109.out 1).trans rfl⟩ (fun hHeld => ?_); refine with_tabW rowlockref06_Load.tab10 rowlockref06_Load.bits10 (fun HT_ HW_ => ?_)
              generalize w37.drew = w38 at HO_110001 HO112 BK108 BK109 HB hHeld ⊢
              refine pure_ (i := 0) (N := some 43) (v := ?_) (a' := ?_) #[true, false, false, false, false, false, false, false, false, false, false, false, false] rfl rfl (any_of HT_.out (by kernel_rfl)) (fun _ _ _ h => h) (Or.inl ⟨by rfl, ?_⟩) ?_ ?_
              rotate_left
              ·intro w'
               go_simp
               with_reducible rfl
              rotate_left
              ·simp only [Act.put, List.setIfInBounds_toArray, List.set_cons_zero, List.set_cons_succ, i64_w, i32_w]
               rfl
              refine pure_ (i := 2) (N := some 45) (v := ?_) (a' := ?_) #[true, false, true, false, false, false, false, false, false, false, false, false, false] rfl rfl (any_of HT_.out (by kernel_rfl)) (fun _ _ _ h => h) (Or.inl ⟨by rfl, ?_⟩) ?_ ?_
              rotate_left
              ·intro w'
               go_simp
               with_reducible rfl
              rotate_left
              ·simp only [Act.put, List.setIfInBounds_toArray, List.set_cons_zero, List.set_cons_succ, i64_w, i32_w]
               rfl
              refine pure_ (i := 3) (N := some 46) (v := ?_) (a' := ?_) #[true, false, true, true, false, false, false, false, false, false, false, false, false] rfl rfl (any_of HT_.out (by kernel_rfl)) (fun _ _ _ h => h) (Or.inl ⟨by rfl, ?_⟩) ?_ ?_
              rotate_left
              ·intro w'
               go_simp
               with_reducible rfl
              rotate_left
              ·simp only [Act.put, List.setIfInBounds_toArray, List.set_cons_zero, List.set_cons_succ, i64_w, i32_w]
               rfl
              refine pure_ (i := 4) (N := some 47) (v := ?_) (a' := ?_) #[true, false, true, true, true, false, false, false, false, false, false, false, false] rfl rfl (any_of HT_.out (by kernel_rfl)) (fun _ _ _ h => h) (Or.inl ⟨by rfl, ?_⟩) ?_ ?_
              rotate_left
              ·intro w'
               go_simp
               with_reducible rfl
              rotate_left
              ·simp only [Act.put, List.setIfInBounds_toArray, List.set_cons_zero, List.set_cons_succ, i64_w, i32_w]
               rfl
              refine pure_ (i := 5) (N := some 48) (v := ?_) (a' := ?_) #[true, false, true, true, true, true, false, false, false, false, false, false, false] rfl rfl (any_of HT_.out (by kernel_rfl)) (fun _ _ _ h => h) (Or.inl ⟨by rfl, ?_⟩) ?_ ?_
              rotate_left
              ·intro w'
               go_simp
               with_reducible rfl
              rotate_left
              ·simp only [Act.put, List.setIfInBounds_toArray, List.set_cons_zero, List.set_cons_succ, i64_w, i32_w]
               rfl
              refine take_ (i := 1) (N := some 44) (v := ?_) (a' := ?_) #[true, true, true, true, true, true, false, false, false, false, false, false, false] rfl rfl (take_ofW HT_.out HW_.out (by kernel_rfl)) (fun _ _ _ h => h) (Or.inl ⟨by rfl, ?_⟩) hHeld ?_ ?_
              rotate_left
              ·rintro w' ⟨s0, s1⟩
               go_simp
               with_reducible rfl
              rotate_left
              ·simp only [Act.put, List.setIfInBounds_toArray, List.set_cons_zero, List.set_cons_succ, i64_w, i32_w]
               rfl
              refine take_ (i := 6) (N := some 49) (v := ?_) (a' := ?_) #[true, true, true, true, true, true, true, false, false, false, false, false, false] rfl rfl (take_ofW HT_.out HW_.out (by kernel_rfl)) (fun _ _ _ h => h) (Or.inl ⟨by rfl, ?_⟩) hHeld ?_ ?_
              rotate_left
              ·rintro w' ⟨s0, s1⟩
               go_simp
               with_reducible rfl
              rotate_left
              ·simp only [Act.put, List.setIfInBounds_toArray, List.set_cons_zero, List.set_cons_succ, i64_w, i32_w]
               rfl
              refine pure_ (i := 7) (N := some 50) (v := ?_) (a' := ?_) #[true, true, true, true, true, true, true, true, false, false, false, false, false] rfl rfl (any_of HT_.out (by kernel_rfl)) (fun _ _ _ h => h) (Or.inl ⟨by rfl, ?_⟩) ?_ ?_
              rotate_left
              ·intro w'
               go_simp
               with_reducible rfl
              rotate_left
              ·simp only [Act.put, List.setIfInBounds_toArray, List.set_cons_zero, List.set_cons_succ, i64_w, i32_w]
               rfl
              refine pure_ (i := 8) (N := some 51) (v := ?_) (a' := ?_) #[true, true, true, true, true, true, true, true, true, false, false, false, false] rfl rfl (any_of HT_.out (by kernel_rfl)) (fun _ _ _ h => h) (Or.inl ⟨by rfl, ?_⟩) ?_ ?_
              rotate_left
              ·intro w'
               go_simp
               with_reducible rfl
              rotate_left
              ·simp only [Act.put, List.setIfInBounds_toArray, List.set_cons_zero, List.set_cons_succ, i64_w, i32_w]
               rfl
              refine one_ (i := 9) (N := some 52) #[true, true, true, true, true, true, true, true, true, true, false, false, false] rfl rfl (one_of HT_.out (by kernel_rfl)) (by decide) (fun K hK => ?_)
              refine value_ (w1 := ?_) (v := ?_) (by rfl) rfl ?_ ?_
              rotate_left 2
              ·go_simp
               constructor
               ·rfl
               ·rfl
              refine hK.out _ _ ⟨(blk_cell (blk_alloc BK109.out _) 0).trans rfl, (blk_cell (blk_alloc BK109.out _) 1).trans rfl⟩ (fun hHeld => ?_)
              clear hK K
              refine norm_ (a' := ?_) ?_ ?_
              rotate_left
              ·show Act.put _ (some 52) _ = _
               simp only [Act.put, List.setIfInBounds_toArray, List.set_cons_zero, List.set_cons_succ, i64_w, i32_w]
               rfl
              refine one_ (i := 10) (N := some 53) #[true, true, true, true, true, true, true, true, true, true, true, false, false] rfl rfl (one_of HT_.out (by kernel_rfl)) (by decide) (fun K hK => ?_)
              refine Kd.R_append_step Kd.bool (w0 := w) w.heap.size (by rfl) (.tmp 44) (.tmp 52) 30 4 (.bool false) 1 rfl Try.underlying30 info4 rfl (by decide) (by omega) u110001 x110001_2 ((bt (a0.extract ((ji12) : Int).toNat ((wrap64 ((ji12) + 512)) : Int).toNat) 0) != 0) [.bool ((bt (a0.extract ((ji12) : Int).toNat ((wrap64 ((ji12) + 512)) : Int).toNat) 0) != 0)] (fun _ => True) (fun _ => False) rfl rfl ?aP (fun _ hk => hk.elim) ?aF ?aO ?aB ?aS ?aL ?_
              (case aP => exact rfl)
              (case aB => exact (by repeat (first | (with_reducible first | exact HB.out | apply below_alloc | apply pw_below_drewN | apply below_drew1 | refine below_set ?_ GE108.out | refine below_set ?_ GE109.out) | exact HB.out)))
              (case aF => exact (fun _ _ => trivial))
              (case aO => exact (by (with_reducible repeat (first | apply Kd.R_alloc | apply Kd.R_drewN | apply Kd.R_drew)); exact HO_110001.out))
              (case aS => exact (below_size (by repeat (first | (with_reducible first | exact HB.out | apply below_alloc | apply pw_below_drewN | apply below_drew1 | refine below_set ?_ GE108.out | refine below_set ?_ GE109.out) | exact HB.out))))
              (case aL => have := LMc31.out; omega)
              intro v117 w39 ho hb hg hat
              rw [← Ny116.out] at ho
              have n0_ := Aside0.mk (blk_grown (g := gb108) (o := .cells #[.slice none 0 0, .slice none 0 0] 32 (0, 0)) (by (with_reducible repeat (first | refine blk_drewN ?_ _ | refine blk_drew ?_ | refine blk_alloc ?_ _)); exact BK108.out) hg (Kd.R_ne HO_110001.out BK108.out (by decide)))
              have n1_ := Aside0.mk (blk_grown (g := gb109) (o := .cells #[.slice Ao35 y110.length co35, u110001] 32 (0, 0)) (by (with_reducible repeat (first | refine blk_drewN ?_ _ | refine blk_drew ?_ | refine blk_alloc ?_ _)); exact BK109.out) hg (Kd.R_ne HO_110001.out BK109.out (by decide)))
              have n2_ := Aside0.mk (Kd.R_over' (by (with_reducible repeat (first | apply Kd.R_alloc | apply Kd.R_drewN | apply Kd.R_drew)); exact HO112.out) (Kd.R_typed (by (with_reducible repeat (first | apply Kd.R_alloc | apply Kd.R_drewN | apply Kd.R_drew)); exact HO_110001.out)) (by decide) hg)
              have n3_ := Aside0.mk (hb)
              have n4_ := Aside0.mk (ho)
              clear BK108
              clear BK109
              clear HO112
              clear HB
              clear HO_110001
              have BK108 := n0_
              have BK109 := n1_
              have HO112 := n2_
              have HB := n3_
              have HO118 := n4_
              clear n0_ n1_ n2_ n3_ n4_
              clear ho hb hg hat
              obtain ⟨Ao40, co40, eo40⟩ := Kd.R_slice HO118.out
              (first | subst eo40 | (injection eo40 with f1_ f2_ f3_; have f4_ := f1_.symm; have f5_ := f3_.symm; clear f1_ f2_ f3_; subst f4_; subst f5_))
              refine hK.out _ _ ⟨(blk_cell BK109.out 0).trans rfl, (blk_cell BK109.out 1).trans rfl⟩ (fun hHeld => ?_)
              clear hK K
              refine norm_ (a' := ?_) ?_ ?_
              rotate_left
              ·show Act.put _ (some 53) _ = _
               simp only [Act.put, List.setIfInBounds_toArray, List.set_cons_zero, List.set_cons_succ, i64_w, i32_w]
               rfl
              refine pure_ (i := 11) (N := some 54) (v := ?_) (a' := ?_) #[true, true, true, true, true, true, true, true, true, true, true, true, false] rfl rfl (any_of HT_.out (by kernel_rfl)) (fun _ _ _ h => h) (Or.inl ⟨by rfl, ?_⟩) ?_ ?_
              rotate_left
              ·intro w'
               go_simp
               with_reducible rfl
              rotate_left
              ·simp only [Act.put, List.setIfInBounds_toArray, List.set_cons_zero, List.set_cons_succ, i64_w, i32_w]
               rfl
              refine last_ (i := 12) (N := none) #[true, true, true, true, true, true, true, true, true, true, true, true, true] rfl rfl (one_of HT_.out (by kernel_rfl)) (by decide) (fun K hK => ?_)
              have hs41 : w39.cell? ⟨gb109, 1, none⟩ = some (u110001) := (blk_cell BK109.out 1).trans rfl
              have hfs41 := blk_frozen BK109.out 1
              have hns41_0 := NB108_109.out
              have hms41_0 := NB109_108.out
              refine skip_ (w1 := ?_) (by rfl) rfl ?_ ?_
              rotate_left
              ·go_simp
               rfl
              refine hK.out _ _ ?_
              clear hK K
              refine done_ (done_of HT_.out (by kernel_rfl)) ?_
              try go_wp2
              go_roundg k2
              case measure => have := HJ1.out; have := HK2.out; omega
              case rel => exact ⟨(wrap64 (x6_2 + 1)), (y110), (y116), (.slice Ao35 y110.length co35), (.slice Ao40 y116.length co40), (by first | rfl | (simp; done) | (simp [*]; done)), H', ⟨by have := HJ1.out; have := HK2.out; omega⟩, ⟨by (with_reducible repeat (first | apply Kd.R_alloc | apply Kd.R_drewN | apply Kd.R_drew)); exact Kd.R_mono (Kd.R_far (p := ⟨gb109, 1, none⟩) (Kd.R_types HO112.out BK109.out (by decide)) (fun _ hk => hk.2) (.slice Ao40 y116.length co40)) (fun _ hk => trivial)⟩, ⟨by (with_reducible repeat (first | apply Kd.R_alloc | apply Kd.R_drewN | apply Kd.R_drew)); exact Kd.R_mono (Kd.R_far (p := ⟨gb109, 1, none⟩) (Kd.R_types HO118.out BK109.out (by decide)) (fun _ hk => hk.2) (.slice Ao40 y116.length co40)) (fun _ hk => trivial)⟩, ⟨by (with_reducible repeat (first | refine blk_drewN ?_ _ | refine blk_drew ?_ | refine blk_alloc ?_ _)); refine blk_far ?_ NB108_109.out _; (with_reducible repeat (first | refine blk_drewN ?_ _ | refine blk_drew ?_ | refine blk_alloc ?_ _)); exact BK108.out⟩, ⟨by (with_reducible repeat (first | refine blk_drewN ?_ _ | refine blk_drew ?_ | refine blk_alloc ?_ _)); refine blk_put (cs := #[.slice Ao35 y110.length co35, u110001]) ?_ 1 _ rfl; (with_reducible repeat (first | refine blk_drewN ?_ _ | refine blk_drew ?_ | refine blk_alloc ?_ _)); exact BK109.out⟩, ⟨by repeat (first | (with_reducible first | exact HB.out | apply below_alloc | apply pw_below_drewN | apply below_drew1 | refine below_set ?_ GE108.out | refine below_set ?_ GE109.out) | exact HB.out)⟩⟩
             ·rw [if_neg c31] at H
              exact absurd H (by simp)
            ·rw [if_neg c29] at H
             exact absurd H (by simp)
          ·rw [if_neg c16] at H
           exact absurd H (by simp)
         ·rw [if_neg c15] at H
          exact absurd H (by simp)
        ·rw [if_neg c14] at H
         exact absurd H (by simp)
       ·rw [if_neg c13] at H
        exact absurd H (by simp)
      ·rw [if_neg c11] at H
       have c11b0 : decide (x6_2 < (wrap64 ((a0.size : Int) / 512))) = false := decide_eq_false c11
       clear c11
       simp only [Option.some.injEq, Prod.mk.injEq] at H
       obtain ⟨rfl, rfl, rfl⟩ := H
       have hnb42 := NB109_108.out
       have hnc42 := NB108_109.out
       have hcz43_0 : wr.cell? ⟨gb109, 0, none⟩ = some (u110000) := (blk_cell BK109.out 0).trans rfl
       have hcz43_1 : wr.cell? ⟨gb109, 1, none⟩ = some (u110001) := (blk_cell BK109.out 1).trans rfl
       have hfz43_0 := blk_frozen BK109.out 0
       have hfz43_1 := blk_frozen BK109.out 1
       obtain ⟨Ao44, co44, eo44⟩ := Kd.R_slice HO_110000.out
       subst eo44
       have hcz45_0 : wr.cell? ⟨gb108, 0, none⟩ = some (.slice none 0 0) := (blk_cell BK108.out 0).trans rfl
       have hcz45_1 : wr.cell? ⟨gb108, 1, none⟩ = some (.slice none 0 0) := (blk_cell BK108.out 1).trans rfl
       have hfz45_0 := blk_frozen BK108.out 0
       have hfz45_1 := blk_frozen BK108.out 1
       obtain ⟨Ao46, co46, eo46⟩ := Kd.R_slice HO_110001.out
       subst eo46
       go_wp2
       refine bodyPost_ret (results_ct rfl _ _ gb108 32 #[.slice Ao44 x110000_2.length co44, .slice Ao46 x110001_2.length co46] (0, 0) _ rfl (by (with_reducible repeat (first | refine blk_drewN ?_ _ | refine blk_drew ?_ | refine blk_alloc ?_ _)); refine blk_put (cs := #[.slice Ao44 x110000_2.length co44, .slice none 0 0]) ?_ 1 _ rfl; (with_reducible repeat (first | refine blk_drewN ?_ _ | refine blk_drew ?_ | refine blk_alloc ?_ _)); refine blk_put (cs := #[.slice none 0 0, .slice none 0 0]) ?_ 0 _ rfl; (with_reducible repeat (first | refine blk_drewN ?_ _ | refine blk_drew ?_ | refine blk_alloc ?_ _)); exact BK108.out) Try.underlying32 rfl (by kernel_rfl)) rfl ?_
       exact ⟨_, _, by first | rfl | (simp [errW_none, errW_some] <;> rfl) | (simp [*, errW_none, errW_some] <;> rfl), by (with_reducible repeat (first | apply Kd.R_alloc | apply Kd.R_drewN | apply Kd.R_drew)); exact Kd.R_mono (Kd.R_far (p := ⟨gb108, 1, none⟩) (Kd.R_far (p := ⟨gb108, 0, none⟩) (Kd.R_types HO_110000.out BK108.out (by decide)) (fun _ hk => hk.2) (.slice Ao44 x110000_2.length co44)) (fun _ hk => hk.2) (.slice Ao46 x110001_2.length co46)) (fun _ hk => trivial), by (with_reducible repeat (first | apply Kd.R_alloc | apply Kd.R_drewN | apply Kd.R_drew)); exact Kd.R_mono (Kd.R_far (p := ⟨gb108, 1, none⟩) (Kd.R_far (p := ⟨gb108, 0, none⟩) (Kd.R_types HO_110001.out BK108.out (by decide)) (fun _ hk => hk.2) (.slice Ao44 x110000_2.length co44)) (fun _ hk => hk.2) (.slice Ao46 x110001_2.length co46)) (fun _ hk => trivial), by repeat (first | (with_reducible first | exact HB.out | apply below_alloc | apply pw_below_drewN | apply below_drew1 | refine below_set ?_ GE108.out | refine below_set ?_ GE109.out) | exact HB.out)⟩

/-! ### rowlockref06_zeros: function 39 -/
def rowlockref06_zeros.f (a0 : Int) : Option (ByteArray) := if 0 ≤ a0 then (if (a0 : Int).toNat ≤ 281474976710656 then (some (strOfNums (List.replicate (a0 : Int).toNat 0))) else (none)) else (none)
/-! ### rowlockref06_New: function 13 -/
-- NOT PRINTED: function 109 (disk_Disk_Len)

-- NOT PRINTED: function 84 (disk_Disk_at)

-- NOT PRINTED: function 42 (disk_Disk_Write)

end Go.Proofs.Ytpfegfkniilobaa.XHeap
