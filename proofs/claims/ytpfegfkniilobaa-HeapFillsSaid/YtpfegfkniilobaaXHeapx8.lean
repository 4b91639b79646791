-- Written by this session's own program (wip/own_print.py) over the kit's print, with this session's hand-proved contracts in their places; Lean checks it.
import Derived.Test.YtpfegfkniilobaaXHeapx0
import Derived.Test.YtpfegfkniilobaaXHeapx5
import Derived.Test.YtpfegfkniilobaaXHeapx7
namespace Go.Proofs.Ytpfegfkniilobaa.XHeap
open Go.RowKit Go.Proofs.YtpfegfkniilobaaW.PrintWords Go.Proofs.YtpfegfkniilobaaW.PrintLast Go.Proofs.YtpfegfkniilobaaW.PrintMore
attribute [local go_sem] max2_int min2_int max_two min_two max_three min_three max_four min_four   -- for this text's walks alone
set_option linter.unusedVariables false
set_option linter.unusedSimpArgs false

/-! ### rowlockref09_H_write: function 45 -/
def rowlockref09_H_write.f (k : Nat) (l0_0 : List ByteArray) (l0_1 : List Bool) (a0_2 : Int) (a0_3 : Int) (a0_4 : Int) (l0_5 : List ByteArray) (l0_6 : List (S50)) (a0_7 : Bool) : Option (List ByteArray × List Bool × Int × Int × Int × List ByteArray × (List (S50)) × Bool) := (rowlockref08_Page_Lay.f k a0_4 l0_5).bind fun t234 => ((rowlockref06_Disk_Write.f l0_0 l0_1 a0_3 t234).bind fun bt235 => (some (bt235.2.1, bt235.2.2, a0_2, a0_3, a0_4, l0_5, l0_6, a0_7)))
theorem rowlockref09_H_write.mono : ∀ a0 a1 a2 a3 a4 a5 a6 a7 k, LeO (rowlockref09_H_write.f k a0 a1 a2 a3 a4 a5 a6 a7) (rowlockref09_H_write.f (k + 1) a0 a1 a2 a3 a4 a5 a6 a7) := by
 intro a0 a1 a2 a3 a4 a5 a6 a7 k
 unfold rowlockref09_H_write.f
 repeat' first
   | (with_reducible exact rowlockref08_Page_Lay.mono _ _ _)
   | (with_reducible exact LeO.refl _)
   | (with_reducible exact LeO.none _)
   | (with_reducible refine LeO.ite ?_ ?_)
   | (with_reducible refine LeO.bind ?_ (fun _ => ?_))
   | exact rowlockref08_Page_Lay.mono _ _ _
   | exact LeO.none _
   | refine LeO.ite ?_ ?_
   | refine LeO.bind ?_ (fun _ => ?_)
def rowlockref09_H_write.T1 : Bool × List (List Nat × List Nat) := (true, [([], []), ([0], [0]), ([], []), ([2], [2]), ([], []), ([4], [4]), ([5], [5]), ([1, 3, 6, 6], [1, 3, 6]), ([7], [7]), ([8], [8]), ([8], [8]), ([], []), ([9, 7, 0, 1, 2, 3, 4, 5, 6, 7, 8, 9, 11], [9]), ([11, 10, 12, 0, 1, 2, 3, 4, 5, 6, 7, 8, 9, 10, 11, 12], [10, 11])])
def rowlockref09_H_write.B1 : List Nat := [0, 1, 0, 4, 0, 16, 48, 127, 255, 511, 511, 0, 3071, 8191]
theorem rowlockref09_H_write.tab1 : rtab .any (opsOf Try.f45 1) = rowlockref09_H_write.T1 := by kernel_rfl
theorem rowlockref09_H_write.bits1 : waitsOk rowlockref09_H_write.T1.2 rowlockref09_H_write.B1 = true := by kernel_rfl
set_option maxHeartbeats 8000000 in
set_option maxRecDepth 100000 in
theorem rowlockref09_H_write.calls (k : Nat) (P0_0_ : Nat → Prop) (u9000_ : Value) (l0_0 : List ByteArray) (P0_1_ : Nat → Prop) (u9001_ : Value) (l0_1 : List Bool) (a0_2 : Int) (a0_3 : Int) (a0_4 : Int) (P0_5_ : Nat → Prop) (u9002_ : Value) (l0_5 : List ByteArray) (P0_6_ : Nat → Prop) (u9003_ : Value) (l0_6 : List (S50)) (a0_7 : Bool) (r1 : List ByteArray) (r2 : List Bool) (r3 : Int) (r4 : Int) (r5 : Int) (r6 : List ByteArray) (r7 : List (S50)) (r8 : Bool) (w0 w : World) (hB : Below w0.heap.size w0 w) (ho0_0 : Kd.R Kd.string 9 w w0.heap.size P0_0_ u9000_ l0_0) (hp0_0_0_5 : ∀ k_, P0_0_ k_ → ¬ P0_5_ k_) (ho0_1 : Kd.R Kd.bool 4 w w0.heap.size P0_1_ u9001_ l0_1) (ho0_5 : Kd.R Kd.string 9 w w0.heap.size P0_5_ u9002_ l0_5) (hp0_5_0_0 : ∀ k_, P0_5_ k_ → ¬ P0_0_ k_) (ho0_6 : Kd.R k50 50 w w0.heap.size P0_6_ u9003_ l0_6) (h : rowlockref09_H_write.f k l0_0 l0_1 a0_2 a0_3 a0_4 l0_5 l0_6 a0_7 = some (r1, r2, r3, r4, r5, r6, r7, r8)) :
  Calls Try.prog 45 #[.agg #[u9000_, u9001_, .int .u32 a0_2, .int .u32 a0_3, .int .u32 a0_4, u9002_, u9003_, .bool a0_7]] w fun e w' => ∃ v0_ v1_ v5_ v6_ : Value, e = .returned (.agg #[v0_, v1_, .int .u32 r3, .int .u32 r4, .int .u32 r5, v5_, v6_, .bool r8]) ∧ Kd.R Kd.string 9 w' w0.heap.size (fun k_ => ((P0_0_ k_ ∨ P0_1_ k_ ∨ P0_5_ k_ ∨ P0_6_ k_) ∨ w.heap.size ≤ k_) ∧ some k_ ≠ (v5_ : Value).ownBlock) v0_ r1 ∧ Kd.R Kd.bool 4 w' w0.heap.size (fun k_ => ((P0_0_ k_ ∨ P0_1_ k_ ∨ P0_5_ k_ ∨ P0_6_ k_) ∨ w.heap.size ≤ k_)) v1_ r2 ∧ Kd.R Kd.string 9 w' w0.heap.size (fun k_ => ((P0_0_ k_ ∨ P0_1_ k_ ∨ P0_5_ k_ ∨ P0_6_ k_) ∨ w.heap.size ≤ k_) ∧ some k_ ≠ (v0_ : Value).ownBlock) v5_ r6 ∧ Kd.R k50 50 w' w0.heap.size (fun k_ => ((P0_0_ k_ ∨ P0_1_ k_ ∨ P0_5_ k_ ∨ P0_6_ k_) ∨ w.heap.size ≤ k_)) v6_ r7 ∧ Below w0.heap.size w0 w' ∧ Kept w w' (fun k_ => P0_0_ k_ ∨ P0_1_ k_ ∨ P0_5_ k_ ∨ P0_6_ k_) := by
 have hu43 := Try.underlying43
 have hu32 := Try.underlying32
 have hu41 := Try.underlying41
 have HO0_0 := Aside0.mk (show Kd.R Kd.string 9 w w0.heap.size (fun k_ => ((P0_0_ k_ ∨ P0_1_ k_ ∨ P0_5_ k_ ∨ P0_6_ k_) ∨ w.heap.size ≤ k_) ∧ some k_ ≠ (u9002_ : Value).ownBlock) u9000_ l0_0 from Kd.R_mono ho0_0 (fun k_ hk => ⟨(.inl (.inl hk)), fun e_ => hp0_0_0_5 k_ hk (ho0_5.1 k_ e_.symm)⟩))
 have HO0_1 := Aside0.mk (show Kd.R Kd.bool 4 w w0.heap.size (fun k_ => ((P0_0_ k_ ∨ P0_1_ k_ ∨ P0_5_ k_ ∨ P0_6_ k_) ∨ w.heap.size ≤ k_)) u9001_ l0_1 from Kd.R_mono ho0_1 (fun k_ hk => (.inl (.inr (.inl hk)))))
 have HO0_5 := Aside0.mk (show Kd.R Kd.string 9 w w0.heap.size (fun k_ => ((P0_0_ k_ ∨ P0_1_ k_ ∨ P0_5_ k_ ∨ P0_6_ k_) ∨ w.heap.size ≤ k_) ∧ some k_ ≠ (u9000_ : Value).ownBlock) u9002_ l0_5 from Kd.R_mono ho0_5 (fun k_ hk => ⟨(.inl (.inr (.inr (.inl hk)))), fun e_ => hp0_5_0_0 k_ hk (ho0_0.1 k_ e_.symm)⟩))
 have HO0_6 := Aside0.mk (show Kd.R k50 50 w w0.heap.size (fun k_ => ((P0_0_ k_ ∨ P0_1_ k_ ∨ P0_5_ k_ ∨ P0_6_ k_) ∨ w.heap.size ≤ k_)) u9003_ l0_6 from Kd.R_mono ho0_6 (fun k_ hk => (.inl (.inr (.inr (.inr hk))))))
 have HK := Aside0.mk (Kept.refl w (fun k_ => P0_0_ k_ ∨ P0_1_ k_ ∨ P0_5_ k_ ∨ P0_6_ k_))
 have HW0 := Aside0.mk hB.size
 have HB := Aside0.mk hB
 clear hB
 have H : ((rowlockref08_Page_Lay.f k a0_4 l0_5).bind fun t234 => ((rowlockref06_Disk_Write.f l0_0 l0_1 a0_3 t234).bind fun bt235 => (some (bt235.2.1, bt235.2.2, a0_2, a0_3, a0_4, l0_5, l0_6, a0_7)))) = some (r1, r2, r3, r4, r5, r6, r7, r8) := h
 clear h
 replace H := Option.bind_eq_some_iff.mp H
 obtain ⟨t234, A20, H⟩ := H
 replace H : ((rowlockref06_Disk_Write.f l0_0 l0_1 a0_3 t234).bind fun bt235 => (some (bt235.2.1, bt235.2.2, a0_2, a0_3, a0_4, l0_5, l0_6, a0_7))) = some (r1, r2, r3, r4, r5, r6, r7, r8) := H
 have A2 := Aside0.mk A20
 clear A20
 replace H := Option.bind_eq_some_iff.mp H
 obtain ⟨⟨t235, t236, t239⟩, A30, H⟩ := H
 replace H : (some (t236, t239, a0_2, a0_3, a0_4, l0_5, l0_6, a0_7)) = some (r1, r2, r3, r4, r5, r6, r7, r8) := H
 have A3 := Aside0.mk A30
 clear A30
 simp only [Option.some.injEq, Prod.mk.injEq] at H
 obtain ⟨rfl, rfl, rfl, rfl, rfl, rfl, rfl, rfl⟩ := H
 obtain ⟨Ao4, co4, eo4⟩ := Kd.R_slice HO0_0.out
 subst eo4
 obtain ⟨Ao5, co5, eo5⟩ := Kd.R_slice HO0_1.out
 subst eo5
 obtain ⟨Ao6, co6, eo6⟩ := Kd.R_slice HO0_5.out
 subst eo6
 obtain ⟨Ao7, co7, eo7⟩ := Kd.R_slice HO0_6.out
 subst eo7
 go_enter Try.func45, Try.ntmps45
 try go_wp2_with (first | ((with_reducible refine gate_dst (N := 1) rfl ?_); refine box_event ?hg (N := 1) ?hd (cs := #[.slice Ao4 l0_0.length co4, .slice Ao5 l0_1.length co5, .int .u32 a0_2, .int .u32 a0_3, .int .u32 a0_4, .slice Ao6 l0_5.length co6, .slice Ao7 l0_6.length co7, .bool a0_7]) (t := 43) ?hr ?_; (case hd => rfl); (case hg => rfl); (case hr => first | (go_simp; done) | (go_simp; rfl)); intro gb232 hg w8 hbox hb; have n0_ := Aside0.mk (Kd.R_below (by (with_reducible repeat (first | apply Kd.R_alloc | apply Kd.R_drewN | apply Kd.R_drew)); exact HO0_0.out) hb); have n1_ := Aside0.mk (Kd.R_below (by (with_reducible repeat (first | apply Kd.R_alloc | apply Kd.R_drewN | apply Kd.R_drew)); exact HO0_1.out) hb); have n2_ := Aside0.mk (Kd.R_below (by (with_reducible repeat (first | apply Kd.R_alloc | apply Kd.R_drewN | apply Kd.R_drew)); exact HO0_5.out) hb); have n3_ := Aside0.mk (Kd.R_below (by (with_reducible repeat (first | apply Kd.R_alloc | apply Kd.R_drewN | apply Kd.R_drew)); exact HO0_6.out) hb); have n4_ := Aside0.mk (Kept.below (S := (fun k_ => P0_0_ k_ ∨ P0_1_ k_ ∨ P0_5_ k_ ∨ P0_6_ k_)) (by repeat (first | (with_reducible first | exact HK.out | apply Kept.alloc | apply Kept.drewN | apply Kept.drew) | exact HK.out)) hb); have n5_ := Aside0.mk (below_step (by repeat (first | (with_reducible first | exact HB.out | apply below_alloc | apply pw_below_drewN | apply below_drew1) | exact HB.out)) hb); have n6_ := Aside0.mk (hbox); have n7_ := Aside0.mk ((by rw [hg]; exact (by first | exact HK.out.1 | exact (show Kept w _ (fun k_ => P0_0_ k_ ∨ P0_1_ k_ ∨ P0_5_ k_ ∨ P0_6_ k_) from by repeat (first | (with_reducible first | exact HK.out | apply Kept.alloc | apply Kept.drewN | apply Kept.drew) | exact HK.out)).1) : w.heap.size ≤ gb232)); have n8_ := Aside0.mk ((by rw [hg]; exact (below_size (by repeat (first | (with_reducible first | exact HB.out | apply below_alloc | apply pw_below_drewN | apply below_drew1) | exact HB.out))) : w0.heap.size ≤ gb232)); clear HO0_0; clear HO0_1; clear HO0_5; clear HO0_6; clear HK; clear HB; have HO0_0 := n0_; have HO0_1 := n1_; have HO0_5 := n2_; have HO0_6 := n3_; have HK := n4_; have HB := n5_; have BK232 := n6_; have GW232 := n7_; have GE232 := n8_; clear n0_ n1_ n2_ n3_ n4_ n5_ n6_ n7_ n8_; clear hb hbox hg) | ((with_reducible refine gate_dst (N := 2) rfl ?_); refine box_event ?hg (N := 2) ?hd (cs := #[.slice none 0 0, .slice none 0 0, .int .u32 0, .int .u32 0, .int .u32 0, .slice none 0 0, .slice none 0 0, .bool false]) (t := 43) ?hr ?_; (case hd => rfl); (case hg => rfl); (case hr => first | (go_simp; done) | (go_simp; rfl)); intro gb233 hg w9 hbox hb; have n0_ := Aside0.mk (Kd.R_below (by (with_reducible repeat (first | apply Kd.R_alloc | apply Kd.R_drewN | apply Kd.R_drew)); exact HO0_0.out) hb); have n1_ := Aside0.mk (Kd.R_below (by (with_reducible repeat (first | apply Kd.R_alloc | apply Kd.R_drewN | apply Kd.R_drew)); exact HO0_1.out) hb); have n2_ := Aside0.mk (Kd.R_below (by (with_reducible repeat (first | apply Kd.R_alloc | apply Kd.R_drewN | apply Kd.R_drew)); exact HO0_5.out) hb); have n3_ := Aside0.mk (Kd.R_below (by (with_reducible repeat (first | apply Kd.R_alloc | apply Kd.R_drewN | apply Kd.R_drew)); exact HO0_6.out) hb); have n4_ := Aside0.mk (blk_below (g := gb232) (o := .cells #[.slice Ao4 l0_0.length co4, .slice Ao5 l0_1.length co5, .int .u32 a0_2, .int .u32 a0_3, .int .u32 a0_4, .slice Ao6 l0_5.length co6, .slice Ao7 l0_6.length co7, .bool a0_7] 43 (0, 0)) (by (with_reducible repeat (first | refine blk_drewN ?_ _ | refine blk_drew ?_ | refine blk_alloc ?_ _)); exact BK232.out) hb); have n5_ := Aside0.mk (Kept.below (S := (fun k_ => P0_0_ k_ ∨ P0_1_ k_ ∨ P0_5_ k_ ∨ P0_6_ k_)) (by repeat (first | (with_reducible first | exact HK.out | apply Kept.alloc | apply Kept.drewN | apply Kept.drew | refine Kept.setCell ?_ (.inr GW232.out) _) | exact HK.out)) hb); have n6_ := Aside0.mk (below_step (by repeat (first | (with_reducible first | exact HB.out | apply below_alloc | apply pw_below_drewN | apply below_drew1 | refine below_set ?_ GE232.out) | exact HB.out)) hb); have n7_ := Aside0.mk (hbox); have n8_ := Aside0.mk ((by rw [hg]; exact (by first | exact HK.out.1 | exact (show Kept w _ (fun k_ => P0_0_ k_ ∨ P0_1_ k_ ∨ P0_5_ k_ ∨ P0_6_ k_) from by repeat (first | (with_reducible first | exact HK.out | apply Kept.alloc | apply Kept.drewN | apply Kept.drew | refine Kept.setCell ?_ (.inr GW232.out) _) | exact HK.out)).1) : w.heap.size ≤ gb233)); have n9_ := Aside0.mk ((by rw [hg]; exact (below_size (by repeat (first | (with_reducible first | exact HB.out | apply below_alloc | apply pw_below_drewN | apply below_drew1 | refine below_set ?_ GE232.out) | exact HB.out))) : w0.heap.size ≤ gb233)); have n10_ := Aside0.mk ((by rw [hg]; exact Nat.ne_of_lt (blk_lt (g := gb232) (o := .cells #[.slice Ao4 l0_0.length co4, .slice Ao5 l0_1.length co5, .int .u32 a0_2, .int .u32 a0_3, .int .u32 a0_4, .slice Ao6 l0_5.length co6, .slice Ao7 l0_6.length co7, .bool a0_7] 43 (0, 0)) (by (with_reducible repeat (first | refine blk_drewN ?_ _ | refine blk_drew ?_ | refine blk_alloc ?_ _)); exact BK232.out)) : gb232 ≠ gb233)); have n11_ := Aside0.mk ((by rw [hg]; exact Nat.ne_of_gt (blk_lt (g := gb232) (o := .cells #[.slice Ao4 l0_0.length co4, .slice Ao5 l0_1.length co5, .int .u32 a0_2, .int .u32 a0_3, .int .u32 a0_4, .slice Ao6 l0_5.length co6, .slice Ao7 l0_6.length co7, .bool a0_7] 43 (0, 0)) (by (with_reducible repeat (first | refine blk_drewN ?_ _ | refine blk_drew ?_ | refine blk_alloc ?_ _)); exact BK232.out)) : gb233 ≠ gb232)); clear HO0_0; clear HO0_1; clear HO0_5; clear HO0_6; clear BK232; clear HK; clear HB; have HO0_0 := n0_; have HO0_1 := n1_; have HO0_5 := n2_; have HO0_6 := n3_; have BK232 := n4_; have HK := n5_; have HB := n6_; have BK233 := n7_; have GW233 := n8_; have GE233 := n9_; have NB232_233 := n10_; have NB233_232 := n11_; clear n0_ n1_ n2_ n3_ n4_ n5_ n6_ n7_ n8_ n9_ n10_ n11_; clear hb hbox hg))
 have n0_ := Aside0.mk (Kd.R_drew HO0_0.out)
 have n1_ := Aside0.mk (Kd.R_drew HO0_1.out)
 have n2_ := Aside0.mk (Kd.R_drew HO0_5.out)
 have n3_ := Aside0.mk (Kd.R_drew HO0_6.out)
 have n4_ := Aside0.mk (blk_drew BK232.out)
 have n5_ := Aside0.mk (blk_drew BK233.out)
 have n6_ := Aside0.mk (Kept.drew HK.out)
 have n7_ := Aside0.mk (below_drew1 HB.out)
 clear HO0_0
 clear HO0_1
 clear HO0_5
 clear HO0_6
 clear BK232
 clear BK233
 clear HK
 clear HB
 have HO0_0 := n0_
 have HO0_1 := n1_
 have HO0_5 := n2_
 have HO0_6 := n3_
 have BK232 := n4_
 have BK233 := n5_
 have HK := n6_
 have HB := n7_
 clear n0_ n1_ n2_ n3_ n4_ n5_ n6_ n7_
 refine start_ (n := 14) (S := fun w' => w'.cell? ⟨gb232, 0, none⟩ = some (.slice Ao4 l0_0.length co4) ∧ w'.cell? ⟨gb232, 1, none⟩ = some (.slice Ao5 l0_1.length co5) ∧ w'.cell? ⟨gb232, 2, none⟩ = some (.int .u32 a0_2) ∧ w'.cell? ⟨gb232, 3, none⟩ = some (.int .u32 a0_3) ∧ w'.cell? ⟨gb232, 4, none⟩ = some (.int .u32 a0_4) ∧ w'.cell? ⟨gb232, 5, none⟩ = some (.slice Ao6 l0_5.length co6) ∧ w'.cell? ⟨gb232, 6, none⟩ = some (.slice Ao7 l0_6.length co7) ∧ w'.cell? ⟨gb232, 7, none⟩ = some (.bool a0_7)) (ds := []) #[false, false, false, false, false, false, false, false, false, false, false, false, false, false] (by kernel_rfl) rfl rfl ⟨(blk_cell BK232.out 0).trans rfl, (blk_cell BK232.out 1).trans rfl, (blk_cell BK232.out 2).trans rfl, (blk_cell BK232.out 3).trans rfl, (blk_cell BK232.out 4).trans rfl, (blk_cell BK232.out 5).trans rfl, (blk_cell BK232.out 6).trans rfl, (blk_cell BK232.out 7).trans rfl⟩ (fun hHeld => ?_); refine with_tabW rowlockref09_H_write.tab1 rowlockref09_H_write.bits1 (fun HT_ HW_ => ?_)
 generalize w9.drew = w10 at HO0_0 HO0_1 HO0_5 HO0_6 BK232 BK233 HK HB hHeld ⊢
 refine pure_ (i := 0) (N := some 6) (v := ?_) (a' := ?_) #[true, false, false, false, false, false, false, false, false, false, false, false, false, false] rfl rfl (any_of HT_.out (by kernel_rfl)) (fun _ _ _ h => h) (Or.inl ⟨by rfl, ?_⟩) ?_ ?_
 rotate_left
 ·intro w'
  go_simp
  with_reducible rfl
 rotate_left
 ·simp only [Act.put, List.setIfInBounds_toArray, List.set_cons_zero, List.set_cons_succ, i64_w, i32_w]
  rfl
 refine pure_ (i := 2) (N := some 8) (v := ?_) (a' := ?_) #[true, false, true, false, false, false, false, false, false, false, false, false, false, false] rfl rfl (any_of HT_.out (by kernel_rfl)) (fun _ _ _ h => h) (Or.inl ⟨by rfl, ?_⟩) ?_ ?_
 rotate_left
 ·intro w'
  go_simp
  with_reducible rfl
 rotate_left
 ·simp only [Act.put, List.setIfInBounds_toArray, List.set_cons_zero, List.set_cons_succ, i64_w, i32_w]
  rfl
 refine pure_ (i := 4) (N := some 10) (v := ?_) (a' := ?_) #[true, false, true, false, true, false, false, false, false, false, false, false, false, false] rfl rfl (any_of HT_.out (by kernel_rfl)) (fun _ _ _ h => h) (Or.inl ⟨by rfl, ?_⟩) ?_ ?_
 rotate_left
 ·intro w'
  go_simp
  with_reducible rfl
 rotate_left
 ·simp only [Act.put, List.setIfInBounds_toArray, List.set_cons_zero, List.set_cons_succ, i64_w, i32_w]
  rfl
 refine take_ (i := 1) (N := some 7) (v := ?_) (a' := ?_) #[true, true, true, false, true, false, false, false, false, false, false, false, false, false] rfl rfl (take_ofW HT_.out HW_.out (by kernel_rfl)) (fun _ _ _ h => h) (Or.inl ⟨by rfl, ?_⟩) hHeld ?_ ?_
 rotate_left
 ·rintro w' ⟨s0, s1, s2, s3, s4, s5, s6, s7⟩
  go_simp
  with_reducible rfl
 rotate_left
 ·simp only [Act.put, List.setIfInBounds_toArray, List.set_cons_zero, List.set_cons_succ, i64_w, i32_w]
  rfl
 refine take_ (i := 3) (N := some 9) (v := ?_) (a' := ?_) #[true, true, true, true, true, false, false, false, false, false, false, false, false, false] rfl rfl (take_ofW HT_.out HW_.out (by kernel_rfl)) (fun _ _ _ h => h) (Or.inl ⟨by rfl, ?_⟩) hHeld ?_ ?_
 rotate_left
 ·rintro w' ⟨s0, s1, s2, s3, s4, s5, s6, s7⟩
  go_simp
  with_reducible rfl
 rotate_left
 ·simp only [Act.put, List.setIfInBounds_toArray, List.set_cons_zero, List.set_cons_succ, i64_w, i32_w]
  rfl
 refine take_ (i := 5) (N := some 11) (v := ?_) (a' := ?_) #[true, true, true, true, true, true, false, false, false, false, false, false, false, false] rfl rfl (take_ofW HT_.out HW_.out (by kernel_rfl)) (fun _ _ _ h => h) (Or.inl ⟨by rfl, ?_⟩) hHeld ?_ ?_
 rotate_left
 ·rintro w' ⟨s0, s1, s2, s3, s4, s5, s6, s7⟩
  go_simp
  with_reducible rfl
 rotate_left
 ·simp only [Act.put, List.setIfInBounds_toArray, List.set_cons_zero, List.set_cons_succ, i64_w, i32_w]
  rfl
 refine join_ (σ := Value × Value × Nat) 2 #[true, true, true, true, true, true, true, true, true, true, true, true, false, false] (fun s_ => [(12, .string t234), (13, .tuple #[.int .i64 t235, .agg #[s_.1, s_.2.1]]), (4, .pointer (some ⟨s_.2.2, 0, none⟩)), (5, .tuple #[.int .i64 t235, .agg #[s_.1, s_.2.1]]), (14, .int .i64 t235), (15, .agg #[s_.1, s_.2.1])]) (fun s_ w' => (w'.cell? ⟨gb232, 0, none⟩ = some (.slice Ao4 l0_0.length co4) ∧ w'.cell? ⟨gb232, 1, none⟩ = some (.slice Ao5 l0_1.length co5) ∧ w'.cell? ⟨gb232, 2, none⟩ = some (.int .u32 a0_2) ∧ w'.cell? ⟨gb232, 3, none⟩ = some (.int .u32 a0_3) ∧ w'.cell? ⟨gb232, 4, none⟩ = some (.int .u32 a0_4) ∧ w'.cell? ⟨gb232, 5, none⟩ = some (.slice Ao6 l0_5.length co6) ∧ w'.cell? ⟨gb232, 6, none⟩ = some (.slice Ao7 l0_6.length co7) ∧ w'.cell? ⟨gb232, 7, none⟩ = some (.bool a0_7)) ∧ (Kd.R Kd.string 9 w' w0.heap.size (fun k_ => ((P0_0_ k_ ∨ P0_1_ k_ ∨ P0_5_ k_ ∨ P0_6_ k_) ∨ w.heap.size ≤ k_) ∧ some k_ ≠ (s_.1 : Value).ownBlock) (.slice Ao6 l0_5.length co6) l0_5) ∧ (Kd.R k50 50 w' w0.heap.size (fun k_ => ((P0_0_ k_ ∨ P0_1_ k_ ∨ P0_5_ k_ ∨ P0_6_ k_) ∨ w.heap.size ≤ k_)) (.slice Ao7 l0_6.length co7) l0_6) ∧ (Kd.R Kd.string 9 w' w0.heap.size (fun k_ => ((P0_0_ k_ ∨ P0_1_ k_ ∨ P0_5_ k_ ∨ P0_6_ k_) ∨ w.heap.size ≤ k_) ∧ some k_ ≠ (.slice Ao6 l0_5.length co6 : Value).ownBlock) s_.1 t236) ∧ (Kd.R Kd.bool 4 w' w0.heap.size (fun k_ => ((P0_0_ k_ ∨ P0_1_ k_ ∨ P0_5_ k_ ∨ P0_6_ k_) ∨ w.heap.size ≤ k_)) s_.2.1 t239) ∧ (w'.heap[gb232]? = some (.cells #[.slice Ao4 l0_0.length co4, .slice Ao5 l0_1.length co5, .int .u32 a0_2, .int .u32 a0_3, .int .u32 a0_4, .slice Ao6 l0_5.length co6, .slice Ao7 l0_6.length co7, .bool a0_7] 43 (0, 0))) ∧ (w'.heap[gb233]? = some (.cells #[.slice none 0 0, .slice none 0 0, .int .u32 0, .int .u32 0, .int .u32 0, .slice none 0 0, .slice none 0 0, .bool false] 43 (0, 0))) ∧ (w'.heap[s_.2.2]? = some (.cells #[.slice none 0 0, .slice none 0 0] 32 (0, 0))) ∧ (w.heap.size ≤ s_.2.2) ∧ (w0.heap.size ≤ s_.2.2) ∧ (gb232 ≠ s_.2.2) ∧ (s_.2.2 ≠ gb232) ∧ (gb233 ≠ s_.2.2) ∧ (s_.2.2 ≠ gb233) ∧ (Kept w w' (fun k_ => P0_0_ k_ ∨ P0_1_ k_ ∨ P0_5_ k_ ∨ P0_6_ k_)) ∧ (Below w0.heap.size w0 w')) ?_ ?_
 rotate_left
 ·intro hCont
  refine two_ (i := 6) (j := 11) (Ni := some 12) (Nj := some 4) #[true, true, true, true, true, true, true, false, false, false, false, false, false, false] #[true, true, true, true, true, true, false, false, false, false, false, true, false, false] rfl rfl rfl rfl (two_of HT_.out (by kernel_rfl)) (by decide) (by decide) (fun K hK => ?_) (fun K hK => ?_)
  ·skip
   refine goes_ Try.func88 (by kernel_rfl) rfl #[.agg #[.int .u32 a0_4, .slice Ao6 l0_5.length co6]] (by rfl) rfl rfl (by (try simp only [List.map_toArray, List.map_cons, List.map_nil]); first | done | rfl | (simp only [List.length_drop, List.length_take]; rfl)) ?_
   with_reducible refine (rowlockref08_Page_Lay.calls k a0_4 _ _ l0_5 t234 _ ?side1 ?side2 A2.out).mono ?_
   (case side1 => repeat (first | exact (Kd.R_reads' HO0_5.out).2.2 | (with_reducible refine Kd.C_alloc ?_ _) | (with_reducible refine Kd.C_drewN ?_ _) | (with_reducible refine Kd.C_drew ?_)))
   (case side2 => exact (Kd.R_reads' HO0_5.out).2.1)
   rintro e w11 ⟨rfl, hb⟩
   refine ⟨_, rfl, ?_⟩
   have n0_ := Aside0.mk (Kd.R_below (by (with_reducible repeat (first | apply Kd.R_alloc | apply Kd.R_drewN | apply Kd.R_drew)); exact HO0_0.out) hb)
   have n1_ := Aside0.mk (Kd.R_below (by (with_reducible repeat (first | apply Kd.R_alloc | apply Kd.R_drewN | apply Kd.R_drew)); exact HO0_1.out) hb)
   have n2_ := Aside0.mk (Kd.R_below (by (with_reducible repeat (first | apply Kd.R_alloc | apply Kd.R_drewN | apply Kd.R_drew)); exact HO0_5.out) hb)
   have n3_ := Aside0.mk (Kd.R_below (by (with_reducible repeat (first | apply Kd.R_alloc | apply Kd.R_drewN | apply Kd.R_drew)); exact HO0_6.out) hb)
   have n4_ := Aside0.mk (blk_below (g := gb232) (o := .cells #[.slice Ao4 l0_0.length co4, .slice Ao5 l0_1.length co5, .int .u32 a0_2, .int .u32 a0_3, .int .u32 a0_4, .slice Ao6 l0_5.length co6, .slice Ao7 l0_6.length co7, .bool a0_7] 43 (0, 0)) (by (with_reducible repeat (first | refine blk_drewN ?_ _ | refine blk_drew ?_ | refine blk_alloc ?_ _)); exact BK232.out) hb)
   have n5_ := Aside0.mk (blk_below (g := gb233) (o := .cells #[.slice none 0 0, .slice none 0 0, .int .u32 0, .int .u32 0, .int .u32 0, .slice none 0 0, .slice none 0 0, .bool false] 43 (0, 0)) (by (with_reducible repeat (first | refine blk_drewN ?_ _ | refine blk_drew ?_ | refine blk_alloc ?_ _)); exact BK233.out) hb)
   have n6_ := Aside0.mk (Kept.below (S := (fun k_ => P0_0_ k_ ∨ P0_1_ k_ ∨ P0_5_ k_ ∨ P0_6_ k_)) (by repeat (first | (with_reducible first | exact HK.out | apply Kept.alloc | apply Kept.drewN | apply Kept.drew | refine Kept.setCell ?_ (.inr GW232.out) _ | refine Kept.setCell ?_ (.inr GW233.out) _) | exact HK.out)) hb)
   have n7_ := Aside0.mk (below_step (by repeat (first | (with_reducible first | exact HB.out | apply below_alloc | apply pw_below_drewN | apply below_drew1 | refine below_set ?_ GE232.out | refine below_set ?_ GE233.out) | exact HB.out)) hb)
   clear HO0_0
   clear HO0_1
   clear HO0_5
   clear HO0_6
   clear BK232
   clear BK233
   clear HK
   clear HB
   have HO0_0 := n0_
   have HO0_1 := n1_
   have HO0_5 := n2_
   have HO0_6 := n3_
   have BK232 := n4_
   have BK233 := n5_
   have HK := n6_
   have HB := n7_
   clear n0_ n1_ n2_ n3_ n4_ n5_ n6_ n7_
   (try clear hb)
   (try clear hb2)
   (try clear hk)
   (try clear hi)
   refine hK.out _ _ ⟨(blk_cell BK232.out 0).trans rfl, (blk_cell BK232.out 1).trans rfl, (blk_cell BK232.out 2).trans rfl, (blk_cell BK232.out 3).trans rfl, (blk_cell BK232.out 4).trans rfl, (blk_cell BK232.out 5).trans rfl, (blk_cell BK232.out 6).trans rfl, (blk_cell BK232.out 7).trans rfl⟩ (fun hHeld => ?_)
   clear hK K
   refine norm_ (a' := ?_) ?_ ?_
   rotate_left
   ·show Act.put _ (some 12) _ = _
    simp only [Act.put, List.setIfInBounds_toArray, List.set_cons_zero, List.set_cons_succ, i64_w, i32_w]
    rfl
   refine two_ (i := 7) (j := 11) (Ni := some 13) (Nj := some 4) #[true, true, true, true, true, true, true, true, false, false, false, false, false, false] #[true, true, true, true, true, true, true, false, false, false, false, true, false, false] rfl rfl rfl rfl (two_of HT_.out (by kernel_rfl)) (by decide) (by decide) (fun K hK => ?_) (fun K hK => ?_)
   ·skip
    refine goes_ Try.func87 (by kernel_rfl) rfl #[.agg #[.slice Ao4 l0_0.length co4, .slice Ao5 l0_1.length co5], .int .u32 a0_3, .string t234] (by rfl) rfl rfl (by (try simp only [List.map_toArray, List.map_cons, List.map_nil]); first | done | rfl | (simp only [List.length_drop, List.length_take]; rfl)) ?_
    with_reducible refine (rowlockref06_Disk_Write.calls (fun k_ => some k_ = (.slice Ao4 l0_0.length co4 : Value).ownBlock) (.slice Ao4 l0_0.length co4) l0_0 (fun k_ => some k_ = (.slice Ao5 l0_1.length co5 : Value).ownBlock) (.slice Ao5 l0_1.length co5) l0_1 a0_3 t234 t235 t236 t239 w0 _ ?side1 ?side2 ?side3 A3.out).mono ?_
    (case side1 => repeat (first | (with_reducible first | exact HB.out | apply below_alloc | apply pw_below_drewN | apply below_drew1 | refine below_set ?_ GE232.out | refine below_set ?_ GE233.out) | exact HB.out))
    (case side2 => exact Kd.R_tight rfl HO0_0.out)
    (case side3 => exact Kd.R_tight rfl HO0_1.out)
    rintro e w12 ⟨v237, v240, rfl, ho0, ho1, hb, hkp⟩
    refine ⟨_, rfl, ?_⟩
    have n0_ := Aside0.mk (Kd.R_mono (ok' := fun k_ => ((P0_0_ k_ ∨ P0_1_ k_ ∨ P0_5_ k_ ∨ P0_6_ k_) ∨ w.heap.size ≤ k_) ∧ some k_ ≠ (v237 : Value).ownBlock) (Kd.R_keptB ((Kd.R_apart' HO0_5.out (Kd.R_typed HO0_1.out) (by decide))) hkp (fun k_ hk_ hs_ => Or.elim hs_ (fun e_ => (hk_.1.2) e_) (fun e_ => (hk_.2) e_))) (fun k_ hk_ => ⟨hk_.1.1.1, fun e_ => Or.elim (ho0.1 k_ e_.symm) (fun hs_ => hk_.2.1 hs_) (fun hn_ => Nat.not_le.2 hk_.2.2 hn_)⟩))
    have n1_ := Aside0.mk (Kd.R_mono (ok' := fun k_ => ((P0_0_ k_ ∨ P0_1_ k_ ∨ P0_5_ k_ ∨ P0_6_ k_) ∨ w.heap.size ≤ k_)) (Kd.R_keptB ((Kd.R_apart' (Kd.R_apart' HO0_6.out (Kd.R_typed HO0_0.out) (by decide)) (Kd.R_typed HO0_1.out) (by decide))) hkp (fun k_ hk_ hs_ => Or.elim hs_ (fun e_ => (hk_.1.2) e_) (fun e_ => (hk_.2) e_))) (fun k_ hk_ => hk_.1.1.1))
    have n2_ := Aside0.mk (blk_kept (by (with_reducible repeat (first | refine blk_drewN ?_ _ | refine blk_drew ?_ | refine blk_alloc ?_ _)); exact BK232.out) hkp (fun hs_ => Or.elim hs_ (fun e_ => (fun e_ => (Kd.R_ne HO0_0.out BK232.out (by decide)) e_) e_) (fun e_ => (fun e_ => (Kd.R_ne HO0_1.out BK232.out (by decide)) e_) e_)))
    have n3_ := Aside0.mk (blk_kept (by (with_reducible repeat (first | refine blk_drewN ?_ _ | refine blk_drew ?_ | refine blk_alloc ?_ _)); exact BK233.out) hkp (fun hs_ => Or.elim hs_ (fun e_ => (fun e_ => (Kd.R_ne HO0_0.out BK233.out (by decide)) e_) e_) (fun e_ => (fun e_ => (Kd.R_ne HO0_1.out BK233.out (by decide)) e_) e_)))
    have n4_ := Aside0.mk (Kd.R_mono (ok' := fun k_ => ((P0_0_ k_ ∨ P0_1_ k_ ∨ P0_5_ k_ ∨ P0_6_ k_) ∨ w.heap.size ≤ k_) ∧ some k_ ≠ (.slice Ao6 l0_5.length co6 : Value).ownBlock) ho0 (fun k_ hk_ => ⟨Or.elim hk_ (fun hs_ => Or.elim hs_ (fun hs_ => (HO0_0.out.1 k_ (hs_).symm).1) (fun hs_ => (HO0_1.out.1 k_ (hs_).symm))) (fun hn_ => (.inr (Nat.le_trans (by first | exact HK.out.1 | exact (show Kept w _ (fun k_ => P0_0_ k_ ∨ P0_1_ k_ ∨ P0_5_ k_ ∨ P0_6_ k_) from by repeat (first | (with_reducible first | exact HK.out | apply Kept.alloc | apply Kept.drewN | apply Kept.drew | refine Kept.setCell ?_ (.inr GW232.out) _ | refine Kept.setCell ?_ (.inr GW233.out) _) | exact HK.out)).1) hn_))), Or.elim hk_ (fun hs_ => Or.elim hs_ (fun hs_ => fun e_ => ((((Kd.R_apart' HO0_5.out (Kd.R_typed HO0_1.out) (by decide))).1 k_ e_.symm).1.2) hs_) (fun hs_ => fun e_ => ((((Kd.R_apart' HO0_5.out (Kd.R_typed HO0_1.out) (by decide))).1 k_ e_.symm).2) hs_)) (fun hn_ => (Kd.fresh' (Kd.R_lt (by (with_reducible repeat (first | apply Kd.R_alloc | apply Kd.R_drewN | apply Kd.R_drew)); exact HO0_5.out)) k_ hn_))⟩))
    have n5_ := Aside0.mk (Kd.R_mono (ok' := fun k_ => ((P0_0_ k_ ∨ P0_1_ k_ ∨ P0_5_ k_ ∨ P0_6_ k_) ∨ w.heap.size ≤ k_)) ho1 (fun k_ hk_ => Or.elim hk_ (fun hs_ => Or.elim hs_ (fun hs_ => (HO0_0.out.1 k_ (hs_).symm).1) (fun hs_ => (HO0_1.out.1 k_ (hs_).symm))) (fun hn_ => (.inr (Nat.le_trans (by first | exact HK.out.1 | exact (show Kept w _ (fun k_ => P0_0_ k_ ∨ P0_1_ k_ ∨ P0_5_ k_ ∨ P0_6_ k_) from by repeat (first | (with_reducible first | exact HK.out | apply Kept.alloc | apply Kept.drewN | apply Kept.drew | refine Kept.setCell ?_ (.inr GW232.out) _ | refine Kept.setCell ?_ (.inr GW233.out) _) | exact HK.out)).1) hn_)))))
    have n6_ := Aside0.mk (Kept.then_ (S := (fun k_ => P0_0_ k_ ∨ P0_1_ k_ ∨ P0_5_ k_ ∨ P0_6_ k_)) (by repeat (first | (with_reducible first | exact HK.out | apply Kept.alloc | apply Kept.drewN | apply Kept.drew | refine Kept.setCell ?_ (.inr GW232.out) _ | refine Kept.setCell ?_ (.inr GW233.out) _) | exact HK.out)) hkp (fun k_ hs_ => Or.elim hs_ (fun e_ => (fun e_ => (HO0_0.out.1 k_ e_.symm).1) e_) (fun e_ => (fun e_ => (HO0_1.out.1 k_ e_.symm)) e_)))
    have n7_ := Aside0.mk (hb)
    clear HO0_5
    clear HO0_6
    clear BK232
    clear BK233
    clear HK
    clear HB
    clear HO0_0
    clear HO0_1
    have HO0_5 := n0_
    have HO0_6 := n1_
    have BK232 := n2_
    have BK233 := n3_
    have HO238 := n4_
    have HO241 := n5_
    have HK := n6_
    have HB := n7_
    clear n0_ n1_ n2_ n3_ n4_ n5_ n6_ n7_
    (try clear hb)
    (try clear hkp)
    (try clear ho0)
    (try clear ho1)
    refine hK.out _ _ ⟨(blk_cell BK232.out 0).trans rfl, (blk_cell BK232.out 1).trans rfl, (blk_cell BK232.out 2).trans rfl, (blk_cell BK232.out 3).trans rfl, (blk_cell BK232.out 4).trans rfl, (blk_cell BK232.out 5).trans rfl, (blk_cell BK232.out 6).trans rfl, (blk_cell BK232.out 7).trans rfl⟩ (fun hHeld => ?_)
    clear hK K
    refine norm_ (a' := ?_) ?_ ?_
    rotate_left
    ·show Act.put _ (some 13) _ = _
     simp only [Act.put, List.setIfInBounds_toArray, List.set_cons_zero, List.set_cons_succ, i64_w, i32_w]
     rfl
    refine pure_ (i := 8) (N := some 5) (v := ?_) (a' := ?_) #[true, true, true, true, true, true, true, true, true, false, false, false, false, false] rfl rfl (any_of HT_.out (by kernel_rfl)) (fun _ _ _ h => h) (Or.inl ⟨by rfl, ?_⟩) ?_ ?_
    rotate_left
    ·intro w'
     go_simp
     with_reducible rfl
    rotate_left
    ·simp only [Act.put, List.setIfInBounds_toArray, List.set_cons_zero, List.set_cons_succ, i64_w, i32_w]
     rfl
    refine pure_ (i := 9) (N := some 14) (v := ?_) (a' := ?_) #[true, true, true, true, true, true, true, true, true, true, false, false, false, false] rfl rfl (any_of HT_.out (by kernel_rfl)) (fun _ _ _ h => h) (Or.inl ⟨by rfl, ?_⟩) ?_ ?_
    rotate_left
    ·intro w'
     go_simp
     with_reducible rfl
    rotate_left
    ·simp only [Act.put, List.setIfInBounds_toArray, List.set_cons_zero, List.set_cons_succ, i64_w, i32_w]
     rfl
    refine pure_ (i := 10) (N := some 15) (v := ?_) (a' := ?_) #[true, true, true, true, true, true, true, true, true, true, true, false, false, false] rfl rfl (any_of HT_.out (by kernel_rfl)) (fun _ _ _ h => h) (Or.inl ⟨by rfl, ?_⟩) ?_ ?_
    rotate_left
    ·intro w'
     go_simp
     with_reducible rfl
    rotate_left
    ·simp only [Act.put, List.setIfInBounds_toArray, List.set_cons_zero, List.set_cons_succ, i64_w, i32_w]
     rfl
    refine one_ (i := 11) (N := some 4) #[true, true, true, true, true, true, true, true, true, true, true, true, false, false] rfl rfl (one_of HT_.out (by kernel_rfl)) (by decide) (fun K hK => ?_)
    refine box_step ?hg (N := 4) ?hd (cs := #[.slice none 0 0, .slice none 0 0]) (t := 32) ?hr ?_; (case hd => rfl); (case hg => rfl); (case hr => first | (go_simp; done) | (go_simp; rfl))
    intro gb242 hg w13 hbox hb
    have n0_ := Aside0.mk (Kd.R_below (by (with_reducible repeat (first | apply Kd.R_alloc | apply Kd.R_drewN | apply Kd.R_drew)); exact HO0_5.out) hb)
    have n1_ := Aside0.mk (Kd.R_below (by (with_reducible repeat (first | apply Kd.R_alloc | apply Kd.R_drewN | apply Kd.R_drew)); exact HO0_6.out) hb)
    have n2_ := Aside0.mk (Kd.R_below (by (with_reducible repeat (first | apply Kd.R_alloc | apply Kd.R_drewN | apply Kd.R_drew)); exact HO238.out) hb)
    have n3_ := Aside0.mk (Kd.R_below (by (with_reducible repeat (first | apply Kd.R_alloc | apply Kd.R_drewN | apply Kd.R_drew)); exact HO241.out) hb)
    have n4_ := Aside0.mk (blk_below (g := gb232) (o := .cells #[.slice Ao4 l0_0.length co4, .slice Ao5 l0_1.length co5, .int .u32 a0_2, .int .u32 a0_3, .int .u32 a0_4, .slice Ao6 l0_5.length co6, .slice Ao7 l0_6.length co7, .bool a0_7] 43 (0, 0)) (by (with_reducible repeat (first | refine blk_drewN ?_ _ | refine blk_drew ?_ | refine blk_alloc ?_ _)); exact BK232.out) hb)
    have n5_ := Aside0.mk (blk_below (g := gb233) (o := .cells #[.slice none 0 0, .slice none 0 0, .int .u32 0, .int .u32 0, .int .u32 0, .slice none 0 0, .slice none 0 0, .bool false] 43 (0, 0)) (by (with_reducible repeat (first | refine blk_drewN ?_ _ | refine blk_drew ?_ | refine blk_alloc ?_ _)); exact BK233.out) hb)
    have n6_ := Aside0.mk (Kept.below (S := (fun k_ => P0_0_ k_ ∨ P0_1_ k_ ∨ P0_5_ k_ ∨ P0_6_ k_)) (by repeat (first | (with_reducible first | exact HK.out | apply Kept.alloc | apply Kept.drewN | apply Kept.drew | refine Kept.setCell ?_ (.inr GW232.out) _ | refine Kept.setCell ?_ (.inr GW233.out) _) | exact HK.out)) hb)
    have n7_ := Aside0.mk (below_step (by repeat (first | (with_reducible first | exact HB.out | apply below_alloc | apply pw_below_drewN | apply below_drew1 | refine below_set ?_ GE232.out | refine below_set ?_ GE233.out) | exact HB.out)) hb)
    have n8_ := Aside0.mk (hbox)
    have n9_ := Aside0.mk ((by rw [hg]; exact (by first | exact HK.out.1 | exact (show Kept w _ (fun k_ => P0_0_ k_ ∨ P0_1_ k_ ∨ P0_5_ k_ ∨ P0_6_ k_) from by repeat (first | (with_reducible first | exact HK.out | apply Kept.alloc | apply Kept.drewN | apply Kept.drew | refine Kept.setCell ?_ (.inr GW232.out) _ | refine Kept.setCell ?_ (.inr GW233.out) _) | exact HK.out)).1) : w.heap.size ≤ gb242))
    have n10_ := Aside0.mk ((by rw [hg]; exact (below_size (by repeat (first | (with_reducible first | exact HB.out | apply below_alloc | apply pw_below_drewN | apply below_drew1 | refine below_set ?_ GE232.out | refine below_set ?_ GE233.out) | exact HB.out))) : w0.heap.size ≤ gb242))
    have n11_ := Aside0.mk ((by rw [hg]; exact Nat.ne_of_lt (blk_lt (g := gb232) (o := .cells #[.slice Ao4 l0_0.length co4, .slice Ao5 l0_1.length co5, .int .u32 a0_2, .int .u32 a0_3, .int .u32 a0_4, .slice Ao6 l0_5.length co6, .slice Ao7 l0_6.length co7, .bool a0_7] 43 (0, 0)) (by (with_reducible repeat (first | refine blk_drewN ?_ _ | refine blk_drew ?_ | refine blk_alloc ?_ _)); exact BK232.out)) : gb232 ≠ gb242))
    have n12_ := Aside0.mk ((by rw [hg]; exact Nat.ne_of_gt (blk_lt (g := gb232) (o := .cells #[.slice Ao4 l0_0.length co4, .slice Ao5 l0_1.length co5, .int .u32 a0_2, .int .u32 a0_3, .int .u32 a0_4, .slice Ao6 l0_5.length co6, .slice Ao7 l0_6.length co7, .bool a0_7] 43 (0, 0)) (by (with_reducible repeat (first | refine blk_drewN ?_ _ | refine blk_drew ?_ | refine blk_alloc ?_ _)); exact BK232.out)) : gb242 ≠ gb232))
    have n13_ := Aside0.mk ((by rw [hg]; exact Nat.ne_of_lt (blk_lt (g := gb233) (o := .cells #[.slice none 0 0, .slice none 0 0, .int .u32 0, .int .u32 0, .int .u32 0, .slice none 0 0, .slice none 0 0, .bool false] 43 (0, 0)) (by (with_reducible repeat (first | refine blk_drewN ?_ _ | refine blk_drew ?_ | refine blk_alloc ?_ _)); exact BK233.out)) : gb233 ≠ gb242))
    have n14_ := Aside0.mk ((by rw [hg]; exact Nat.ne_of_gt (blk_lt (g := gb233) (o := .cells #[.slice none 0 0, .slice none 0 0, .int .u32 0, .int .u32 0, .int .u32 0, .slice none 0 0, .slice none 0 0, .bool false] 43 (0, 0)) (by (with_reducible repeat (first | refine blk_drewN ?_ _ | refine blk_drew ?_ | refine blk_alloc ?_ _)); exact BK233.out)) : gb242 ≠ gb233))
    clear HO0_5
    clear HO0_6
    clear HO238
    clear HO241
    clear BK232
    clear BK233
    clear HK
    clear HB
    have HO0_5 := n0_
    have HO0_6 := n1_
    have HO238 := n2_
    have HO241 := n3_
    have BK232 := n4_
    have BK233 := n5_
    have HK := n6_
    have HB := n7_
    have BK242 := n8_
    have GW242 := n9_
    have GE242 := n10_
    have NB232_242 := n11_
    have NB242_232 := n12_
    have NB233_242 := n13_
    have NB242_233 := n14_
    clear n0_ n1_ n2_ n3_ n4_ n5_ n6_ n7_ n8_ n9_ n10_ n11_ n12_ n13_ n14_
    clear hb hbox hg
    refine hK.out _ _ ⟨(blk_cell BK232.out 0).trans rfl, (blk_cell BK232.out 1).trans rfl, (blk_cell BK232.out 2).trans rfl, (blk_cell BK232.out 3).trans rfl, (blk_cell BK232.out 4).trans rfl, (blk_cell BK232.out 5).trans rfl, (blk_cell BK232.out 6).trans rfl, (blk_cell BK232.out 7).trans rfl⟩ (fun hHeld => ?_)
    clear hK K
    refine norm_ (a' := ?_) ?_ ?_
    rotate_left
    ·show Act.put _ (some 4) _ = _
     simp only [Act.put, List.setIfInBounds_toArray, List.set_cons_zero, List.set_cons_succ, i64_w, i32_w]
     rfl
    exact norm_ (by simp only [putAll, Act.put, List.setIfInBounds_toArray, List.set_cons_zero, List.set_cons_succ]) (hCont (v237, v240, gb242) _ ⟨hHeld, (by (with_reducible repeat (first | apply Kd.R_alloc | apply Kd.R_drewN | apply Kd.R_drew)); exact HO0_5.out), (by (with_reducible repeat (first | apply Kd.R_alloc | apply Kd.R_drewN | apply Kd.R_drew)); exact HO0_6.out), (by (with_reducible repeat (first | apply Kd.R_alloc | apply Kd.R_drewN | apply Kd.R_drew)); exact HO238.out), (by (with_reducible repeat (first | apply Kd.R_alloc | apply Kd.R_drewN | apply Kd.R_drew)); exact HO241.out), (by (with_reducible repeat (first | refine blk_drewN ?_ _ | refine blk_drew ?_ | refine blk_alloc ?_ _)); exact BK232.out), (by (with_reducible repeat (first | refine blk_drewN ?_ _ | refine blk_drew ?_ | refine blk_alloc ?_ _)); exact BK233.out), (by (with_reducible repeat (first | refine blk_drewN ?_ _ | refine blk_drew ?_ | refine blk_alloc ?_ _)); exact BK242.out), GW242.out, GE242.out, NB232_242.out, NB242_232.out, NB233_242.out, NB242_233.out, (by repeat (first | (with_reducible first | exact HK.out | apply Kept.alloc | apply Kept.drewN | apply Kept.drew | refine Kept.setCell ?_ (.inr GW232.out) _ | refine Kept.setCell ?_ (.inr GW233.out) _ | refine Kept.setCell ?_ (.inr GW242.out) _) | exact HK.out)), (by repeat (first | (with_reducible first | exact HB.out | apply below_alloc | apply pw_below_drewN | apply below_drew1 | refine below_set ?_ GE232.out | refine below_set ?_ GE233.out | refine below_set ?_ GE242.out) | exact HB.out))⟩)
   ·skip
    refine box_step ?hg (N := 4) ?hd (cs := #[.slice none 0 0, .slice none 0 0]) (t := 32) ?hr ?_; (case hd => rfl); (case hg => rfl); (case hr => first | (go_simp; done) | (go_simp; rfl))
    intro gb242 hg w12 hbox hb
    have n0_ := Aside0.mk (Kd.R_below (by (with_reducible repeat (first | apply Kd.R_alloc | apply Kd.R_drewN | apply Kd.R_drew)); exact HO0_0.out) hb)
    have n1_ := Aside0.mk (Kd.R_below (by (with_reducible repeat (first | apply Kd.R_alloc | apply Kd.R_drewN | apply Kd.R_drew)); exact HO0_1.out) hb)
    have n2_ := Aside0.mk (Kd.R_below (by (with_reducible repeat (first | apply Kd.R_alloc | apply Kd.R_drewN | apply Kd.R_drew)); exact HO0_5.out) hb)
    have n3_ := Aside0.mk (Kd.R_below (by (with_reducible repeat (first | apply Kd.R_alloc | apply Kd.R_drewN | apply Kd.R_drew)); exact HO0_6.out) hb)
    have n4_ := Aside0.mk (blk_below (g := gb232) (o := .cells #[.slice Ao4 l0_0.length co4, .slice Ao5 l0_1.length co5, .int .u32 a0_2, .int .u32 a0_3, .int .u32 a0_4, .slice Ao6 l0_5.length co6, .slice Ao7 l0_6.length co7, .bool a0_7] 43 (0, 0)) (by (with_reducible repeat (first | refine blk_drewN ?_ _ | refine blk_drew ?_ | refine blk_alloc ?_ _)); exact BK232.out) hb)
    have n5_ := Aside0.mk (blk_below (g := gb233) (o := .cells #[.slice none 0 0, .slice none 0 0, .int .u32 0, .int .u32 0, .int .u32 0, .slice none 0 0, .slice none 0 0, .bool false] 43 (0, 0)) (by (with_reducible repeat (first | refine blk_drewN ?_ _ | refine blk_drew ?_ | refine blk_alloc ?_ _)); exact BK233.out) hb)
    have n6_ := Aside0.mk (Kept.below (S := (fun k_ => P0_0_ k_ ∨ P0_1_ k_ ∨ P0_5_ k_ ∨ P0_6_ k_)) (by repeat (first | (with_reducible first | exact HK.out | apply Kept.alloc | apply Kept.drewN | apply Kept.drew | refine Kept.setCell ?_ (.inr GW232.out) _ | refine Kept.setCell ?_ (.inr GW233.out) _) | exact HK.out)) hb)
    have n7_ := Aside0.mk (below_step (by repeat (first | (with_reducible first | exact HB.out | apply below_alloc | apply pw_below_drewN | apply below_drew1 | refine below_set ?_ GE232.out | refine below_set ?_ GE233.out) | exact HB.out)) hb)
    have n8_ := Aside0.mk (hbox)
    have n9_ := Aside0.mk ((by rw [hg]; exact (by first | exact HK.out.1 | exact (show Kept w _ (fun k_ => P0_0_ k_ ∨ P0_1_ k_ ∨ P0_5_ k_ ∨ P0_6_ k_) from by repeat (first | (with_reducible first | exact HK.out | apply Kept.alloc | apply Kept.drewN | apply Kept.drew | refine Kept.setCell ?_ (.inr GW232.out) _ | refine Kept.setCell ?_ (.inr GW233.out) _) | exact HK.out)).1) : w.heap.size ≤ gb242))
    have n10_ := Aside0.mk ((by rw [hg]; exact (below_size (by repeat (first | (with_reducible first | exact HB.out | apply below_alloc | apply pw_below_drewN | apply below_drew1 | refine below_set ?_ GE232.out | refine below_set ?_ GE233.out) | exact HB.out))) : w0.heap.size ≤ gb242))
    have n11_ := Aside0.mk ((by rw [hg]; exact Nat.ne_of_lt (blk_lt (g := gb232) (o := .cells #[.slice Ao4 l0_0.length co4, .slice Ao5 l0_1.length co5, .int .u32 a0_2, .int .u32 a0_3, .int .u32 a0_4, .slice Ao6 l0_5.length co6, .slice Ao7 l0_6.length co7, .bool a0_7] 43 (0, 0)) (by (with_reducible repeat (first | refine blk_drewN ?_ _ | refine blk_drew ?_ | refine blk_alloc ?_ _)); exact BK232.out)) : gb232 ≠ gb242))
    have n12_ := Aside0.mk ((by rw [hg]; exact Nat.ne_of_gt (blk_lt (g := gb232) (o := .cells #[.slice Ao4 l0_0.length co4, .slice Ao5 l0_1.length co5, .int .u32 a0_2, .int .u32 a0_3, .int .u32 a0_4, .slice Ao6 l0_5.length co6, .slice Ao7 l0_6.length co7, .bool a0_7] 43 (0, 0)) (by (with_reducible repeat (first | refine blk_drewN ?_ _ | refine blk_drew ?_ | refine blk_alloc ?_ _)); exact BK232.out)) : gb242 ≠ gb232))
    have n13_ := Aside0.mk ((by rw [hg]; exact Nat.ne_of_lt (blk_lt (g := gb233) (o := .cells #[.slice none 0 0, .slice none 0 0, .int .u32 0, .int .u32 0, .int .u32 0, .slice none 0 0, .slice none 0 0, .bool false] 43 (0, 0)) (by (with_reducible repeat (first | refine blk_drewN ?_ _ | refine blk_drew ?_ | refine blk_alloc ?_ _)); exact BK233.out)) : gb233 ≠ gb242))
    have n14_ := Aside0.mk ((by rw [hg]; exact Nat.ne_of_gt (blk_lt (g := gb233) (o := .cells #[.slice none 0 0, .slice none 0 0, .int .u32 0, .int .u32 0, .int .u32 0, .slice none 0 0, .slice none 0 0, .bool false] 43 (0, 0)) (by (with_reducible repeat (first | refine blk_drewN ?_ _ | refine blk_drew ?_ | refine blk_alloc ?_ _)); exact BK233.out)) : gb242 ≠ gb233))
    clear HO0_0
    clear HO0_1
    clear HO0_5
    clear HO0_6
    clear BK232
    clear BK233
    clear HK
    clear HB
    have HO0_0 := n0_
    have HO0_1 := n1_
    have HO0_5 := n2_
    have HO0_6 := n3_
    have BK232 := n4_
    have BK233 := n5_
    have HK := n6_
    have HB := n7_
    have BK242 := n8_
    have GW242 := n9_
    have GE242 := n10_
    have NB232_242 := n11_
    have NB242_232 := n12_
    have NB233_242 := n13_
    have NB242_233 := n14_
    clear n0_ n1_ n2_ n3_ n4_ n5_ n6_ n7_ n8_ n9_ n10_ n11_ n12_ n13_ n14_
    clear hb hbox hg
    refine hK.out _ _ ⟨(blk_cell BK232.out 0).trans rfl, (blk_cell BK232.out 1).trans rfl, (blk_cell BK232.out 2).trans rfl, (blk_cell BK232.out 3).trans rfl, (blk_cell BK232.out 4).trans rfl, (blk_cell BK232.out 5).trans rfl, (blk_cell BK232.out 6).trans rfl, (blk_cell BK232.out 7).trans rfl⟩ (fun hHeld => ?_)
    clear hK K
    refine norm_ (a' := ?_) ?_ ?_
    rotate_left
    ·show Act.put _ (some 4) _ = _
     simp only [Act.put, List.setIfInBounds_toArray, List.set_cons_zero, List.set_cons_succ, i64_w, i32_w]
     rfl
    refine one_ (i := 7) (N := some 13) #[true, true, true, true, true, true, true, true, false, false, false, true, false, false] rfl rfl (one_of HT_.out (by kernel_rfl)) (by decide) (fun K hK => ?_)
    refine goes_ Try.func87 (by kernel_rfl) rfl #[.agg #[.slice Ao4 l0_0.length co4, .slice Ao5 l0_1.length co5], .int .u32 a0_3, .string t234] (by rfl) rfl rfl (by (try simp only [List.map_toArray, List.map_cons, List.map_nil]); first | done | rfl | (simp only [List.length_drop, List.length_take]; rfl)) ?_
    with_reducible refine (rowlockref06_Disk_Write.calls (fun k_ => some k_ = (.slice Ao4 l0_0.length co4 : Value).ownBlock) (.slice Ao4 l0_0.length co4) l0_0 (fun k_ => some k_ = (.slice Ao5 l0_1.length co5 : Value).ownBlock) (.slice Ao5 l0_1.length co5) l0_1 a0_3 t234 t235 t236 t239 w0 _ ?side1 ?side2 ?side3 A3.out).mono ?_
    (case side1 => repeat (first | (with_reducible first | exact HB.out | apply below_alloc | apply pw_below_drewN | apply below_drew1 | refine below_set ?_ GE232.out | refine below_set ?_ GE233.out | refine below_set ?_ GE242.out) | exact HB.out))
    (case side2 => exact Kd.R_tight rfl HO0_0.out)
    (case side3 => exact Kd.R_tight rfl HO0_1.out)
    rintro e w13 ⟨v237, v240, rfl, ho0, ho1, hb, hkp⟩
    refine ⟨_, rfl, ?_⟩
    have n0_ := Aside0.mk (Kd.R_mono (ok' := fun k_ => ((P0_0_ k_ ∨ P0_1_ k_ ∨ P0_5_ k_ ∨ P0_6_ k_) ∨ w.heap.size ≤ k_) ∧ some k_ ≠ (v237 : Value).ownBlock) (Kd.R_keptB ((Kd.R_apart' HO0_5.out (Kd.R_typed HO0_1.out) (by decide))) hkp (fun k_ hk_ hs_ => Or.elim hs_ (fun e_ => (hk_.1.2) e_) (fun e_ => (hk_.2) e_))) (fun k_ hk_ => ⟨hk_.1.1.1, fun e_ => Or.elim (ho0.1 k_ e_.symm) (fun hs_ => hk_.2.1 hs_) (fun hn_ => Nat.not_le.2 hk_.2.2 hn_)⟩))
    have n1_ := Aside0.mk (Kd.R_mono (ok' := fun k_ => ((P0_0_ k_ ∨ P0_1_ k_ ∨ P0_5_ k_ ∨ P0_6_ k_) ∨ w.heap.size ≤ k_)) (Kd.R_keptB ((Kd.R_apart' (Kd.R_apart' HO0_6.out (Kd.R_typed HO0_0.out) (by decide)) (Kd.R_typed HO0_1.out) (by decide))) hkp (fun k_ hk_ hs_ => Or.elim hs_ (fun e_ => (hk_.1.2) e_) (fun e_ => (hk_.2) e_))) (fun k_ hk_ => hk_.1.1.1))
    have n2_ := Aside0.mk (blk_kept (by (with_reducible repeat (first | refine blk_drewN ?_ _ | refine blk_drew ?_ | refine blk_alloc ?_ _)); exact BK232.out) hkp (fun hs_ => Or.elim hs_ (fun e_ => (fun e_ => (Kd.R_ne HO0_0.out BK232.out (by decide)) e_) e_) (fun e_ => (fun e_ => (Kd.R_ne HO0_1.out BK232.out (by decide)) e_) e_)))
    have n3_ := Aside0.mk (blk_kept (by (with_reducible repeat (first | refine blk_drewN ?_ _ | refine blk_drew ?_ | refine blk_alloc ?_ _)); exact BK233.out) hkp (fun hs_ => Or.elim hs_ (fun e_ => (fun e_ => (Kd.R_ne HO0_0.out BK233.out (by decide)) e_) e_) (fun e_ => (fun e_ => (Kd.R_ne HO0_1.out BK233.out (by decide)) e_) e_)))
    have n4_ := Aside0.mk (blk_kept (by (with_reducible repeat (first | refine blk_drewN ?_ _ | refine blk_drew ?_ | refine blk_alloc ?_ _)); exact BK242.out) hkp (fun hs_ => Or.elim hs_ (fun e_ => (fun e_ => (Kd.R_ne HO0_0.out BK242.out (by decide)) e_) e_) (fun e_ => (fun e_ => (Kd.R_ne HO0_1.out BK242.out (by decide)) e_) e_)))
    have n5_ := Aside0.mk (Kd.R_mono (ok' := fun k_ => ((P0_0_ k_ ∨ P0_1_ k_ ∨ P0_5_ k_ ∨ P0_6_ k_) ∨ w.heap.size ≤ k_) ∧ some k_ ≠ (.slice Ao6 l0_5.length co6 : Value).ownBlock) ho0 (fun k_ hk_ => ⟨Or.elim hk_ (fun hs_ => Or.elim hs_ (fun hs_ => (HO0_0.out.1 k_ (hs_).symm).1) (fun hs_ => (HO0_1.out.1 k_ (hs_).symm))) (fun hn_ => (.inr (Nat.le_trans (by first | exact HK.out.1 | exact (show Kept w _ (fun k_ => P0_0_ k_ ∨ P0_1_ k_ ∨ P0_5_ k_ ∨ P0_6_ k_) from by repeat (first | (with_reducible first | exact HK.out | apply Kept.alloc | apply Kept.drewN | apply Kept.drew | refine Kept.setCell ?_ (.inr GW232.out) _ | refine Kept.setCell ?_ (.inr GW233.out) _ | refine Kept.setCell ?_ (.inr GW242.out) _) | exact HK.out)).1) hn_))), Or.elim hk_ (fun hs_ => Or.elim hs_ (fun hs_ => fun e_ => ((((Kd.R_apart' HO0_5.out (Kd.R_typed HO0_1.out) (by decide))).1 k_ e_.symm).1.2) hs_) (fun hs_ => fun e_ => ((((Kd.R_apart' HO0_5.out (Kd.R_typed HO0_1.out) (by decide))).1 k_ e_.symm).2) hs_)) (fun hn_ => (Kd.fresh' (Kd.R_lt (by (with_reducible repeat (first | apply Kd.R_alloc | apply Kd.R_drewN | apply Kd.R_drew)); exact HO0_5.out)) k_ hn_))⟩))
    have n6_ := Aside0.mk (Kd.R_mono (ok' := fun k_ => ((P0_0_ k_ ∨ P0_1_ k_ ∨ P0_5_ k_ ∨ P0_6_ k_) ∨ w.heap.size ≤ k_)) ho1 (fun k_ hk_ => Or.elim hk_ (fun hs_ => Or.elim hs_ (fun hs_ => (HO0_0.out.1 k_ (hs_).symm).1) (fun hs_ => (HO0_1.out.1 k_ (hs_).symm))) (fun hn_ => (.inr (Nat.le_trans (by first | exact HK.out.1 | exact (show Kept w _ (fun k_ => P0_0_ k_ ∨ P0_1_ k_ ∨ P0_5_ k_ ∨ P0_6_ k_) from by repeat (first | (with_reducible first | exact HK.out | apply Kept.alloc | apply Kept.drewN | apply Kept.drew | refine Kept.setCell ?_ (.inr GW232.out) _ | refine Kept.setCell ?_ (.inr GW233.out) _ | refine Kept.setCell ?_ (.inr GW242.out) _) | exact HK.out)).1) hn_)))))
    have n7_ := Aside0.mk (Kept.then_ (S := (fun k_ => P0_0_ k_ ∨ P0_1_ k_ ∨ P0_5_ k_ ∨ P0_6_ k_)) (by repeat (first | (with_reducible first | exact HK.out | apply Kept.alloc | apply Kept.drewN | apply Kept.drew | refine Kept.setCell ?_ (.inr GW232.out) _ | refine Kept.setCell ?_ (.inr GW233.out) _ | refine Kept.setCell ?_ (.inr GW242.out) _) | exact HK.out)) hkp (fun k_ hs_ => Or.elim hs_ (fun e_ => (fun e_ => (HO0_0.out.1 k_ e_.symm).1) e_) (fun e_ => (fun e_ => (HO0_1.out.1 k_ e_.symm)) e_)))
    have n8_ := Aside0.mk (hb)
    clear HO0_5
    clear HO0_6
    clear BK232
    clear BK233
    clear BK242
    clear HK
    clear HB
    clear HO0_0
    clear HO0_1
    have HO0_5 := n0_
    have HO0_6 := n1_
    have BK232 := n2_
    have BK233 := n3_
    have BK242 := n4_
    have HO238 := n5_
    have HO241 := n6_
    have HK := n7_
    have HB := n8_
    clear n0_ n1_ n2_ n3_ n4_ n5_ n6_ n7_ n8_
    (try clear hb)
    (try clear hkp)
    (try clear ho0)
    (try clear ho1)
    refine hK.out _ _ ⟨(blk_cell BK232.out 0).trans rfl, (blk_cell BK232.out 1).trans rfl, (blk_cell BK232.out 2).trans rfl, (blk_cell BK232.out 3).trans rfl, (blk_cell BK232.out 4).trans rfl, (blk_cell BK232.out 5).trans rfl, (blk_cell BK232.out 6).trans rfl, (blk_cell BK232.out 7).trans rfl⟩ (fun hHeld => ?_)
    clear hK K
    refine norm_ (a' := ?_) ?_ ?_
    rotate_left
    ·show Act.put _ (some 13) _ = _
     simp only [Act.put, List.setIfInBounds_toArray, List.set_cons_zero, List.set_cons_succ, i64_w, i32_w]
     rfl
    refine pure_ (i := 8) (N := some 5) (v := ?_) (a' := ?_) #[true, true, true, true, true, true, true, true, true, false, false, true, false, false] rfl rfl (any_of HT_.out (by kernel_rfl)) (fun _ _ _ h => h) (Or.inl ⟨by rfl, ?_⟩) ?_ ?_
    rotate_left
    ·intro w'
     go_simp
     with_reducible rfl
    rotate_left
    ·simp only [Act.put, List.setIfInBounds_toArray, List.set_cons_zero, List.set_cons_succ, i64_w, i32_w]
     rfl
    refine pure_ (i := 9) (N := some 14) (v := ?_) (a' := ?_) #[true, true, true, true, true, true, true, true, true, true, false, true, false, false] rfl rfl (any_of HT_.out (by kernel_rfl)) (fun _ _ _ h => h) (Or.inl ⟨by rfl, ?_⟩) ?_ ?_
    rotate_left
    ·intro w'
     go_simp
     with_reducible rfl
    rotate_left
    ·simp only [Act.put, List.setIfInBounds_toArray, List.set_cons_zero, List.set_cons_succ, i64_w, i32_w]
     rfl
    refine pure_ (i := 10) (N := some 15) (v := ?_) (a' := ?_) #[true, true, true, true, true, true, true, true, true, true, true, true, false, false] rfl rfl (any_of HT_.out (by kernel_rfl)) (fun _ _ _ h => h) (Or.inl ⟨by rfl, ?_⟩) ?_ ?_
    rotate_left
    ·intro w'
     go_simp
     with_reducible rfl
    rotate_left
    ·simp only [Act.put, List.setIfInBounds_toArray, List.set_cons_zero, List.set_cons_succ, i64_w, i32_w]
     rfl
    exact norm_ (by simp only [putAll, Act.put, List.setIfInBounds_toArray, List.set_cons_zero, List.set_cons_succ]) (hCont (v237, v240, gb242) _ ⟨hHeld, (by (with_reducible repeat (first | apply Kd.R_alloc | apply Kd.R_drewN | apply Kd.R_drew)); exact HO0_5.out), (by (with_reducible repeat (first | apply Kd.R_alloc | apply Kd.R_drewN | apply Kd.R_drew)); exact HO0_6.out), (by (with_reducible repeat (first | apply Kd.R_alloc | apply Kd.R_drewN | apply Kd.R_drew)); exact HO238.out), (by (with_reducible repeat (first | apply Kd.R_alloc | apply Kd.R_drewN | apply Kd.R_drew)); exact HO241.out), (by (with_reducible repeat (first | refine blk_drewN ?_ _ | refine blk_drew ?_ | refine blk_alloc ?_ _)); exact BK232.out), (by (with_reducible repeat (first | refine blk_drewN ?_ _ | refine blk_drew ?_ | refine blk_alloc ?_ _)); exact BK233.out), (by (with_reducible repeat (first | refine blk_drewN ?_ _ | refine blk_drew ?_ | refine blk_alloc ?_ _)); exact BK242.out), GW242.out, GE242.out, NB232_242.out, NB242_232.out, NB233_242.out, NB242_233.out, (by repeat (first | (with_reducible first | exact HK.out | apply Kept.alloc | apply Kept.drewN | apply Kept.drew | refine Kept.setCell ?_ (.inr GW232.out) _ | refine Kept.setCell ?_ (.inr GW233.out) _ | refine Kept.setCell ?_ (.inr GW242.out) _) | exact HK.out)), (by repeat (first | (with_reducible first | exact HB.out | apply below_alloc | apply pw_below_drewN | apply below_drew1 | refine below_set ?_ GE232.out | refine below_set ?_ GE233.out | refine below_set ?_ GE242.out) | exact HB.out))⟩)
  ·skip
   refine box_step ?hg (N := 4) ?hd (cs := #[.slice none 0 0, .slice none 0 0]) (t := 32) ?hr ?_; (case hd => rfl); (case hg => rfl); (case hr => first | (go_simp; done) | (go_simp; rfl))
   intro gb242 hg w11 hbox hb
   have n0_ := Aside0.mk (Kd.R_below (by (with_reducible repeat (first | apply Kd.R_alloc | apply Kd.R_drewN | apply Kd.R_drew)); exact HO0_0.out) hb)
   have n1_ := Aside0.mk (Kd.R_below (by (with_reducible repeat (first | apply Kd.R_alloc | apply Kd.R_drewN | apply Kd.R_drew)); exact HO0_1.out) hb)
   have n2_ := Aside0.mk (Kd.R_below (by (with_reducible repeat (first | apply Kd.R_alloc | apply Kd.R_drewN | apply Kd.R_drew)); exact HO0_5.out) hb)
   have n3_ := Aside0.mk (Kd.R_below (by (with_reducible repeat (first | apply Kd.R_alloc | apply Kd.R_drewN | apply Kd.R_drew)); exact HO0_6.out) hb)
   have n4_ := Aside0.mk (blk_below (g := gb232) (o := .cells #[.slice Ao4 l0_0.length co4, .slice Ao5 l0_1.length co5, .int .u32 a0_2, .int .u32 a0_3, .int .u32 a0_4, .slice Ao6 l0_5.length co6, .slice Ao7 l0_6.length co7, .bool a0_7] 43 (0, 0)) (by (with_reducible repeat (first | refine blk_drewN ?_ _ | refine blk_drew ?_ | refine blk_alloc ?_ _)); exact BK232.out) hb)
   have n5_ := Aside0.mk (blk_below (g := gb233) (o := .cells #[.slice none 0 0, .slice none 0 0, .int .u32 0, .int .u32 0, .int .u32 0, .slice none 0 0, .slice none 0 0, .bool false] 43 (0, 0)) (by (with_reducible repeat (first | refine blk_drewN ?_ _ | refine blk_drew ?_ | refine blk_alloc ?_ _)); exact BK233.out) hb)
   have n6_ := Aside0.mk (Kept.below (S := (fun k_ => P0_0_ k_ ∨ P0_1_ k_ ∨ P0_5_ k_ ∨ P0_6_ k_)) (by repeat (first | (with_reducible first | exact HK.out | apply Kept.alloc | apply Kept.drewN | apply Kept.drew | refine Kept.setCell ?_ (.inr GW232.out) _ | refine Kept.setCell ?_ (.inr GW233.out) _) | exact HK.out)) hb)
   have n7_ := Aside0.mk (below_step (by repeat (first | (with_reducible first | exact HB.out | apply below_alloc | apply pw_below_drewN | apply below_drew1 | refine below_set ?_ GE232.out | refine below_set ?_ GE233.out) | exact HB.out)) hb)
   have n8_ := Aside0.mk (hbox)
   have n9_ := Aside0.mk ((by rw [hg]; exact (by first | exact HK.out.1 | exact (show Kept w _ (fun k_ => P0_0_ k_ ∨ P0_1_ k_ ∨ P0_5_ k_ ∨ P0_6_ k_) from by repeat (first | (with_reducible first | exact HK.out | apply Kept.alloc | apply Kept.drewN | apply Kept.drew | refine Kept.setCell ?_ (.inr GW232.out) _ | refine Kept.setCell ?_ (.inr GW233.out) _) | exact HK.out)).1) : w.heap.size ≤ gb242))
   have n10_ := Aside0.mk ((by rw [hg]; exact (below_size (by repeat (first | (with_reducible first | exact HB.out | apply below_alloc | apply pw_below_drewN | apply below_drew1 | refine below_set ?_ GE232.out | refine below_set ?_ GE233.out) | exact HB.out))) : w0.heap.size ≤ gb242))
   have n11_ := Aside0.mk ((by rw [hg]; exact Nat.ne_of_lt (blk_lt (g := gb232) (o := .cells #[.slice Ao4 l0_0.length co4, .slice Ao5 l0_1.length co5, .int .u32 a0_2, .int .u32 a0_3, .int .u32 a0_4, .slice Ao6 l0_5.length co6, .slice Ao7 l0_6.length co7, .bool a0_7] 43 (0, 0)) (by (with_reducible repeat (first | refine blk_drewN ?_ _ | refine blk_drew ?_ | refine blk_alloc ?_ _)); exact BK232.out)) : gb232 ≠ gb242))
   have n12_ := Aside0.mk ((by rw [hg]; exact Nat.ne_of_gt (blk_lt (g := gb232) (o := .cells #[.slice Ao4 l0_0.length co4, .slice Ao5 l0_1.length co5, .int .u32 a0_2, .int .u32 a0_3, .int .u32 a0_4, .slice Ao6 l0_5.length co6, .slice Ao7 l0_6.length co7, .bool a0_7] 43 (0, 0)) (by (with_reducible repeat (first | refine blk_drewN ?_ _ | refine blk_drew ?_ | refine blk_alloc ?_ _)); exact BK232.out)) : gb242 ≠ gb232))
   have n13_ := Aside0.mk ((by rw [hg]; exact Nat.ne_of_lt (blk_lt (g := gb233) (o := .cells #[.slice none 0 0, .slice none 0 0, .int .u32 0, .int .u32 0, .int .u32 0, .slice none 0 0, .slice none 0 0, .bool false] 43 (0, 0)) (by (with_reducible repeat (first | refine blk_drewN ?_ _ | refine blk_drew ?_ | refine blk_alloc ?_ _)); exact BK233.out)) : gb233 ≠ gb242))
   have n14_ := Aside0.mk ((by rw [hg]; exact Nat.ne_of_gt (blk_lt (g := gb233) (o := .cells #[.slice none 0 0, .slice none 0 0, .int .u32 0, .int .u32 0, .int .u32 0, .slice none 0 0, .slice none 0 0, .bool false] 43 (0, 0)) (by (with_reducible repeat (first | refine blk_drewN ?_ _ | refine blk_drew ?_ | refine blk_alloc ?_ _)); exact BK233.out)) : gb242 ≠ gb233))
   clear HO0_0
   clear HO0_1
   clear HO0_5
   clear HO0_6
   clear BK232
   clear BK233
   clear HK
   clear HB
   have HO0_0 := n0_
   have HO0_1 := n1_
   have HO0_5 := n2_
   have HO0_6 := n3_
   have BK232 := n4_
   have BK233 := n5_
   have HK := n6_
   have HB := n7_
   have BK242 := n8_
   have GW242 := n9_
   have GE242 := n10_
   have NB232_242 := n11_
   have NB242_232 := n12_
   have NB233_242 := n13_
   have NB242_233 := n14_
   clear n0_ n1_ n2_ n3_ n4_ n5_ n6_ n7_ n8_ n9_ n10_ n11_ n12_ n13_ n14_
   clear hb hbox hg
   refine hK.out _ _ ⟨(blk_cell BK232.out 0).trans rfl, (blk_cell BK232.out 1).trans rfl, (blk_cell BK232.out 2).trans rfl, (blk_cell BK232.out 3).trans rfl, (blk_cell BK232.out 4).trans rfl, (blk_cell BK232.out 5).trans rfl, (blk_cell BK232.out 6).trans rfl, (blk_cell BK232.out 7).trans rfl⟩ (fun hHeld => ?_)
   clear hK K
   refine norm_ (a' := ?_) ?_ ?_
   rotate_left
   ·show Act.put _ (some 4) _ = _
    simp only [Act.put, List.setIfInBounds_toArray, List.set_cons_zero, List.set_cons_succ, i64_w, i32_w]
    rfl
   refine one_ (i := 6) (N := some 12) #[true, true, true, true, true, true, true, false, false, false, false, true, false, false] rfl rfl (one_of HT_.out (by kernel_rfl)) (by decide) (fun K hK => ?_)
   refine goes_ Try.func88 (by kernel_rfl) rfl #[.agg #[.int .u32 a0_4, .slice Ao6 l0_5.length co6]] (by rfl) rfl rfl (by (try simp only [List.map_toArray, List.map_cons, List.map_nil]); first | done | rfl | (simp only [List.length_drop, List.length_take]; rfl)) ?_
   with_reducible refine (rowlockref08_Page_Lay.calls k a0_4 _ _ l0_5 t234 _ ?side1 ?side2 A2.out).mono ?_
   (case side1 => repeat (first | exact (Kd.R_reads' HO0_5.out).2.2 | (with_reducible refine Kd.C_alloc ?_ _) | (with_reducible refine Kd.C_drewN ?_ _) | (with_reducible refine Kd.C_drew ?_)))
   (case side2 => exact (Kd.R_reads' HO0_5.out).2.1)
   rintro e w12 ⟨rfl, hb⟩
   refine ⟨_, rfl, ?_⟩
   have n0_ := Aside0.mk (Kd.R_below (by (with_reducible repeat (first | apply Kd.R_alloc | apply Kd.R_drewN | apply Kd.R_drew)); exact HO0_0.out) hb)
   have n1_ := Aside0.mk (Kd.R_below (by (with_reducible repeat (first | apply Kd.R_alloc | apply Kd.R_drewN | apply Kd.R_drew)); exact HO0_1.out) hb)
   have n2_ := Aside0.mk (Kd.R_below (by (with_reducible repeat (first | apply Kd.R_alloc | apply Kd.R_drewN | apply Kd.R_drew)); exact HO0_5.out) hb)
   have n3_ := Aside0.mk (Kd.R_below (by (with_reducible repeat (first | apply Kd.R_alloc | apply Kd.R_drewN | apply Kd.R_drew)); exact HO0_6.out) hb)
   have n4_ := Aside0.mk (blk_below (g := gb232) (o := .cells #[.slice Ao4 l0_0.length co4, .slice Ao5 l0_1.length co5, .int .u32 a0_2, .int .u32 a0_3, .int .u32 a0_4, .slice Ao6 l0_5.length co6, .slice Ao7 l0_6.length co7, .bool a0_7] 43 (0, 0)) (by (with_reducible repeat (first | refine blk_drewN ?_ _ | refine blk_drew ?_ | refine blk_alloc ?_ _)); exact BK232.out) hb)
   have n5_ := Aside0.mk (blk_below (g := gb233) (o := .cells #[.slice none 0 0, .slice none 0 0, .int .u32 0, .int .u32 0, .int .u32 0, .slice none 0 0, .slice none 0 0, .bool false] 43 (0, 0)) (by (with_reducible repeat (first | refine blk_drewN ?_ _ | refine blk_drew ?_ | refine blk_alloc ?_ _)); exact BK233.out) hb)
   have n6_ := Aside0.mk (blk_below (g := gb242) (o := .cells #[.slice none 0 0, .slice none 0 0] 32 (0, 0)) (by (with_reducible repeat (first | refine blk_drewN ?_ _ | refine blk_drew ?_ | refine blk_alloc ?_ _)); exact BK242.out) hb)
   have n7_ := Aside0.mk (Kept.below (S := (fun k_ => P0_0_ k_ ∨ P0_1_ k_ ∨ P0_5_ k_ ∨ P0_6_ k_)) (by repeat (first | (with_reducible first | exact HK.out | apply Kept.alloc | apply Kept.drewN | apply Kept.drew | refine Kept.setCell ?_ (.inr GW232.out) _ | refine Kept.setCell ?_ (.inr GW233.out) _ | refine Kept.setCell ?_ (.inr GW242.out) _) | exact HK.out)) hb)
   have n8_ := Aside0.mk (below_step (by repeat (first | (with_reducible first | exact HB.out | apply below_alloc | apply pw_below_drewN | apply below_drew1 | refine below_set ?_ GE232.out | refine below_set ?_ GE233.out | refine below_set ?_ GE242.out) | exact HB.out)) hb)
   clear HO0_0
   clear HO0_1
   clear HO0_5
   clear HO0_6
   clear BK232
   clear BK233
   clear BK242
   clear HK
   clear HB
   have HO0_0 := n0_
   have HO0_1 := n1_
   have HO0_5 := n2_
   have HO0_6 := n3_
   have BK232 := n4_
   have BK233 := n5_
   have BK242 := n6_
   have HK := n7_
   have HB := n8_
   clear n0_ n1_ n2_ n3_ n4_ n5_ n6_ n7_ n8_
   (try clear hb)
   (try clear hb2)
   (try clear hk)
   (try clear hi)
   refine hK.out _ _ ⟨(blk_cell BK232.out 0).trans rfl, (blk_cell BK232.out 1).trans rfl, (blk_cell BK232.out 2).trans rfl, (blk_cell BK232.out 3).trans rfl, (blk_cell BK232.out 4).trans rfl, (blk_cell BK232.out 5).trans rfl, (blk_cell BK232.out 6).trans rfl, (blk_cell BK232.out 7).trans rfl⟩ (fun hHeld => ?_)
   clear hK K
   refine norm_ (a' := ?_) ?_ ?_
   rotate_left
   ·show Act.put _ (some 12) _ = _
    simp only [Act.put, List.setIfInBounds_toArray, List.set_cons_zero, List.set_cons_succ, i64_w, i32_w]
    rfl
   refine one_ (i := 7) (N := some 13) #[true, true, true, true, true, true, true, true, false, false, false, true, false, false] rfl rfl (one_of HT_.out (by kernel_rfl)) (by decide) (fun K hK => ?_)
   refine goes_ Try.func87 (by kernel_rfl) rfl #[.agg #[.slice Ao4 l0_0.length co4, .slice Ao5 l0_1.length co5], .int .u32 a0_3, .string t234] (by rfl) rfl rfl (by (try simp only [List.map_toArray, List.map_cons, List.map_nil]); first | done | rfl | (simp only [List.length_drop, List.length_take]; rfl)) ?_
   with_reducible refine (rowlockref06_Disk_Write.calls (fun k_ => some k_ = (.slice Ao4 l0_0.length co4 : Value).ownBlock) (.slice Ao4 l0_0.length co4) l0_0 (fun k_ => some k_ = (.slice Ao5 l0_1.length co5 : Value).ownBlock) (.slice Ao5 l0_1.length co5) l0_1 a0_3 t234 t235 t236 t239 w0 _ ?side1 ?side2 ?side3 A3.out).mono ?_
   (case side1 => repeat (first | (with_reducible first | exact HB.out | apply below_alloc | apply pw_below_drewN | apply below_drew1 | refine below_set ?_ GE232.out | refine below_set ?_ GE233.out | refine below_set ?_ GE242.out) | exact HB.out))
   (case side2 => exact Kd.R_tight rfl HO0_0.out)
   (case side3 => exact Kd.R_tight rfl HO0_1.out)
   rintro e w13 ⟨v237, v240, rfl, ho0, ho1, hb, hkp⟩
   refine ⟨_, rfl, ?_⟩
   have n0_ := Aside0.mk (Kd.R_mono (ok' := fun k_ => ((P0_0_ k_ ∨ P0_1_ k_ ∨ P0_5_ k_ ∨ P0_6_ k_) ∨ w.heap.size ≤ k_) ∧ some k_ ≠ (v237 : Value).ownBlock) (Kd.R_keptB ((Kd.R_apart' HO0_5.out (Kd.R_typed HO0_1.out) (by decide))) hkp (fun k_ hk_ hs_ => Or.elim hs_ (fun e_ => (hk_.1.2) e_) (fun e_ => (hk_.2) e_))) (fun k_ hk_ => ⟨hk_.1.1.1, fun e_ => Or.elim (ho0.1 k_ e_.symm) (fun hs_ => hk_.2.1 hs_) (fun hn_ => Nat.not_le.2 hk_.2.2 hn_)⟩))
   have n1_ := Aside0.mk (Kd.R_mono (ok' := fun k_ => ((P0_0_ k_ ∨ P0_1_ k_ ∨ P0_5_ k_ ∨ P0_6_ k_) ∨ w.heap.size ≤ k_)) (Kd.R_keptB ((Kd.R_apart' (Kd.R_apart' HO0_6.out (Kd.R_typed HO0_0.out) (by decide)) (Kd.R_typed HO0_1.out) (by decide))) hkp (fun k_ hk_ hs_ => Or.elim hs_ (fun e_ => (hk_.1.2) e_) (fun e_ => (hk_.2) e_))) (fun k_ hk_ => hk_.1.1.1))
   have n2_ := Aside0.mk (blk_kept (by (with_reducible repeat (first | refine blk_drewN ?_ _ | refine blk_drew ?_ | refine blk_alloc ?_ _)); exact BK232.out) hkp (fun hs_ => Or.elim hs_ (fun e_ => (fun e_ => (Kd.R_ne HO0_0.out BK232.out (by decide)) e_) e_) (fun e_ => (fun e_ => (Kd.R_ne HO0_1.out BK232.out (by decide)) e_) e_)))
   have n3_ := Aside0.mk (blk_kept (by (with_reducible repeat (first | refine blk_drewN ?_ _ | refine blk_drew ?_ | refine blk_alloc ?_ _)); exact BK233.out) hkp (fun hs_ => Or.elim hs_ (fun e_ => (fun e_ => (Kd.R_ne HO0_0.out BK233.out (by decide)) e_) e_) (fun e_ => (fun e_ => (Kd.R_ne HO0_1.out BK233.out (by decide)) e_) e_)))
   have n4_ := Aside0.mk (blk_kept (by (with_reducible repeat (first | refine blk_drewN ?_ _ | refine blk_drew ?_ | refine blk_alloc ?_ _)); exact BK242.out) hkp (fun hs_ => Or.elim hs_ (fun e_ => (fun e_ => (Kd.R_ne HO0_0.out BK242.out (by decide)) e_) e_) (fun e_ => (fun e_ => (Kd.R_ne HO0_1.out BK242.out (by decide)) e_) e_)))
   have n5_ := Aside0.mk (Kd.R_mono (ok' := fun k_ => ((P0_0_ k_ ∨ P0_1_ k_ ∨ P0_5_ k_ ∨ P0_6_ k_) ∨ w.heap.size ≤ k_) ∧ some k_ ≠ (.slice Ao6 l0_5.length co6 : Value).ownBlock) ho0 (fun k_ hk_ => ⟨Or.elim hk_ (fun hs_ => Or.elim hs_ (fun hs_ => (HO0_0.out.1 k_ (hs_).symm).1) (fun hs_ => (HO0_1.out.1 k_ (hs_).symm))) (fun hn_ => (.inr (Nat.le_trans (by first | exact HK.out.1 | exact (show Kept w _ (fun k_ => P0_0_ k_ ∨ P0_1_ k_ ∨ P0_5_ k_ ∨ P0_6_ k_) from by repeat (first | (with_reducible first | exact HK.out | apply Kept.alloc | apply Kept.drewN | apply Kept.drew | refine Kept.setCell ?_ (.inr GW232.out) _ | refine Kept.setCell ?_ (.inr GW233.out) _ | refine Kept.setCell ?_ (.inr GW242.out) _) | exact HK.out)).1) hn_))), Or.elim hk_ (fun hs_ => Or.elim hs_ (fun hs_ => fun e_ => ((((Kd.R_apart' HO0_5.out (Kd.R_typed HO0_1.out) (by decide))).1 k_ e_.symm).1.2) hs_) (fun hs_ => fun e_ => ((((Kd.R_apart' HO0_5.out (Kd.R_typed HO0_1.out) (by decide))).1 k_ e_.symm).2) hs_)) (fun hn_ => (Kd.fresh' (Kd.R_lt (by (with_reducible repeat (first | apply Kd.R_alloc | apply Kd.R_drewN | apply Kd.R_drew)); exact HO0_5.out)) k_ hn_))⟩))
   have n6_ := Aside0.mk (Kd.R_mono (ok' := fun k_ => ((P0_0_ k_ ∨ P0_1_ k_ ∨ P0_5_ k_ ∨ P0_6_ k_) ∨ w.heap.size ≤ k_)) ho1 (fun k_ hk_ => Or.elim hk_ (fun hs_ => Or.elim hs_ (fun hs_ => (HO0_0.out.1 k_ (hs_).symm).1) (fun hs_ => (HO0_1.out.1 k_ (hs_).symm))) (fun hn_ => (.inr (Nat.le_trans (by first | exact HK.out.1 | exact (show Kept w _ (fun k_ => P0_0_ k_ ∨ P0_1_ k_ ∨ P0_5_ k_ ∨ P0_6_ k_) from by repeat (first | (with_reducible first | exact HK.out | apply Kept.alloc | apply Kept.drewN | apply Kept.drew | refine Kept.setCell ?_ (.inr GW232.out) _ | refine Kept.setCell ?_ (.inr GW233.out) _ | refine Kept.setCell ?_ (.inr GW242.out) _) | exact HK.out)).1) hn_)))))
   have n7_ := Aside0.mk (Kept.then_ (S := (fun k_ => P0_0_ k_ ∨ P0_1_ k_ ∨ P0_5_ k_ ∨ P0_6_ k_)) (by repeat (first | (with_reducible first | exact HK.out | apply Kept.alloc | apply Kept.drewN | apply Kept.drew | refine Kept.setCell ?_ (.inr GW232.out) _ | refine Kept.setCell ?_ (.inr GW233.out) _ | refine Kept.setCell ?_ (.inr GW242.out) _) | exact HK.out)) hkp (fun k_ hs_ => Or.elim hs_ (fun e_ => (fun e_ => (HO0_0.out.1 k_ e_.symm).1) e_) (fun e_ => (fun e_ => (HO0_1.out.1 k_ e_.symm)) e_)))
   have n8_ := Aside0.mk (hb)
   clear HO0_5
   clear HO0_6
   clear BK232
   clear BK233
   clear BK242
   clear HK
   clear HB
   clear HO0_0
   clear HO0_1
   have HO0_5 := n0_
   have HO0_6 := n1_
   have BK232 := n2_
   have BK233 := n3_
   have BK242 := n4_
   have HO238 := n5_
   have HO241 := n6_
   have HK := n7_
   have HB := n8_
   clear n0_ n1_ n2_ n3_ n4_ n5_ n6_ n7_ n8_
   (try clear hb)
   (try clear hkp)
   (try clear ho0)
   (try clear ho1)
   refine hK.out _ _ ⟨(blk_cell BK232.out 0).trans rfl, (blk_cell BK232.out 1).trans rfl, (blk_cell BK232.out 2).trans rfl, (blk_cell BK232.out 3).trans rfl, (blk_cell BK232.out 4).trans rfl, (blk_cell BK232.out 5).trans rfl, (blk_cell BK232.out 6).trans rfl, (blk_cell BK232.out 7).trans rfl⟩ (fun hHeld => ?_)
   clear hK K
   refine norm_ (a' := ?_) ?_ ?_
   rotate_left
   ·show Act.put _ (some 13) _ = _
    simp only [Act.put, List.setIfInBounds_toArray, List.set_cons_zero, List.set_cons_succ, i64_w, i32_w]
    rfl
   refine pure_ (i := 8) (N := some 5) (v := ?_) (a' := ?_) #[true, true, true, true, true, true, true, true, true, false, false, true, false, false] rfl rfl (any_of HT_.out (by kernel_rfl)) (fun _ _ _ h => h) (Or.inl ⟨by rfl, ?_⟩) ?_ ?_
   rotate_left
   ·intro w'
    go_simp
    with_reducible rfl
   rotate_left
   ·simp only [Act.put, List.setIfInBounds_toArray, List.set_cons_zero, List.set_cons_succ, i64_w, i32_w]
    rfl
   refine pure_ (i := 9) (N := some 14) (v := ?_) (a' := ?_) #[true, true, true, true, true, true, true, true, true, true, false, true, false, false] rfl rfl (any_of HT_.out (by kernel_rfl)) (fun _ _ _ h => h) (Or.inl ⟨by rfl, ?_⟩) ?_ ?_
   rotate_left
   ·intro w'
    go_simp
    with_reducible rfl
   rotate_left
   ·simp only [Act.put, List.setIfInBounds_toArray, List.set_cons_zero, List.set_cons_succ, i64_w, i32_w]
    rfl
   refine pure_ (i := 10) (N := some 15) (v := ?_) (a' := ?_) #[true, true, true, true, true, true, true, true, true, true, true, true, false, false] rfl rfl (any_of HT_.out (by kernel_rfl)) (fun _ _ _ h => h) (Or.inl ⟨by rfl, ?_⟩) ?_ ?_
   rotate_left
   ·intro w'
    go_simp
    with_reducible rfl
   rotate_left
   ·simp only [Act.put, List.setIfInBounds_toArray, List.set_cons_zero, List.set_cons_succ, i64_w, i32_w]
    rfl
   exact norm_ (by simp only [putAll, Act.put, List.setIfInBounds_toArray, List.set_cons_zero, List.set_cons_succ]) (hCont (v237, v240, gb242) _ ⟨hHeld, (by (with_reducible repeat (first | apply Kd.R_alloc | apply Kd.R_drewN | apply Kd.R_drew)); exact HO0_5.out), (by (with_reducible repeat (first | apply Kd.R_alloc | apply Kd.R_drewN | apply Kd.R_drew)); exact HO0_6.out), (by (with_reducible repeat (first | apply Kd.R_alloc | apply Kd.R_drewN | apply Kd.R_drew)); exact HO238.out), (by (with_reducible repeat (first | apply Kd.R_alloc | apply Kd.R_drewN | apply Kd.R_drew)); exact HO241.out), (by (with_reducible repeat (first | refine blk_drewN ?_ _ | refine blk_drew ?_ | refine blk_alloc ?_ _)); exact BK232.out), (by (with_reducible repeat (first | refine blk_drewN ?_ _ | refine blk_drew ?_ | refine blk_alloc ?_ _)); exact BK233.out), (by (with_reducible repeat (first | refine blk_drewN ?_ _ | refine blk_drew ?_ | refine blk_alloc ?_ _)); exact BK242.out), GW242.out, GE242.out, NB232_242.out, NB242_232.out, NB233_242.out, NB242_233.out, (by repeat (first | (with_reducible first | exact HK.out | apply Kept.alloc | apply Kept.drewN | apply Kept.drew | refine Kept.setCell ?_ (.inr GW232.out) _ | refine Kept.setCell ?_ (.inr GW233.out) _ | refine Kept.setCell ?_ (.inr GW242.out) _) | exact HK.out)), (by repeat (first | (with_reducible first | exact HB.out | apply below_alloc | apply pw_below_drewN | apply below_drew1 | refine below_set ?_ GE232.out | refine below_set ?_ GE233.out | refine below_set ?_ GE242.out) | exact HB.out))⟩)
 rintro ⟨v237, v240, gb242⟩ w14 ⟨hS_, h0_, h1_, h2_, h3_, h4_, h5_, h6_, h7_, h8_, h9_, h10_, h11_, h12_, h13_, h14_⟩
 have n0_ : Aside0 (Kd.R Kd.string 9 w14 w0.heap.size (fun k_ => ((P0_0_ k_ ∨ P0_1_ k_ ∨ P0_5_ k_ ∨ P0_6_ k_) ∨ w.heap.size ≤ k_) ∧ some k_ ≠ (v237 : Value).ownBlock) (.slice Ao6 l0_5.length co6) l0_5) := ⟨h0_⟩
 have n1_ : Aside0 (Kd.R k50 50 w14 w0.heap.size (fun k_ => ((P0_0_ k_ ∨ P0_1_ k_ ∨ P0_5_ k_ ∨ P0_6_ k_) ∨ w.heap.size ≤ k_)) (.slice Ao7 l0_6.length co7) l0_6) := ⟨h1_⟩
 have n2_ : Aside0 (Kd.R Kd.string 9 w14 w0.heap.size (fun k_ => ((P0_0_ k_ ∨ P0_1_ k_ ∨ P0_5_ k_ ∨ P0_6_ k_) ∨ w.heap.size ≤ k_) ∧ some k_ ≠ (.slice Ao6 l0_5.length co6 : Value).ownBlock) v237 t236) := ⟨h2_⟩
 have n3_ : Aside0 (Kd.R Kd.bool 4 w14 w0.heap.size (fun k_ => ((P0_0_ k_ ∨ P0_1_ k_ ∨ P0_5_ k_ ∨ P0_6_ k_) ∨ w.heap.size ≤ k_)) v240 t239) := ⟨h3_⟩
 have n4_ : Aside0 (w14.heap[gb232]? = some (.cells #[.slice Ao4 l0_0.length co4, .slice Ao5 l0_1.length co5, .int .u32 a0_2, .int .u32 a0_3, .int .u32 a0_4, .slice Ao6 l0_5.length co6, .slice Ao7 l0_6.length co7, .bool a0_7] 43 (0, 0))) := ⟨h4_⟩
 have n5_ : Aside0 (w14.heap[gb233]? = some (.cells #[.slice none 0 0, .slice none 0 0, .int .u32 0, .int .u32 0, .int .u32 0, .slice none 0 0, .slice none 0 0, .bool false] 43 (0, 0))) := ⟨h5_⟩
 have n6_ : Aside0 (w14.heap[gb242]? = some (.cells #[.slice none 0 0, .slice none 0 0] 32 (0, 0))) := ⟨h6_⟩
 have n7_ : Aside0 (w.heap.size ≤ gb242) := ⟨h7_⟩
 have n8_ : Aside0 (w0.heap.size ≤ gb242) := ⟨h8_⟩
 have n9_ : Aside0 (gb232 ≠ gb242) := ⟨h9_⟩
 have n10_ : Aside0 (gb242 ≠ gb232) := ⟨h10_⟩
 have n11_ : Aside0 (gb233 ≠ gb242) := ⟨h11_⟩
 have n12_ : Aside0 (gb242 ≠ gb233) := ⟨h12_⟩
 have n13_ : Aside0 (Kept w w14 (fun k_ => P0_0_ k_ ∨ P0_1_ k_ ∨ P0_5_ k_ ∨ P0_6_ k_)) := ⟨h13_⟩
 have n14_ : Aside0 (Below w0.heap.size w0 w14) := ⟨h14_⟩
 clear HO0_0
 clear HO0_1
 clear HO0_5
 clear HO0_6
 clear BK232
 clear BK233
 clear HK
 clear HB
 clear h0_ h1_ h2_ h3_ h4_ h5_ h6_ h7_ h8_ h9_ h10_ h11_ h12_ h13_ h14_
 have HO0_5 := n0_
 have HO0_6 := n1_
 have HO238 := n2_
 have HO241 := n3_
 have BK232 := n4_
 have BK233 := n5_
 have BK242 := n6_
 have GW242 := n7_
 have GE242 := n8_
 have NB232_242 := n9_
 have NB242_232 := n10_
 have NB233_242 := n11_
 have NB242_233 := n12_
 have HK := n13_
 have HB := n14_
 clear n0_ n1_ n2_ n3_ n4_ n5_ n6_ n7_ n8_ n9_ n10_ n11_ n12_ n13_ n14_
 have hHeld : w14.cell? ⟨gb232, 0, none⟩ = some (.slice Ao4 l0_0.length co4) ∧ w14.cell? ⟨gb232, 1, none⟩ = some (.slice Ao5 l0_1.length co5) ∧ w14.cell? ⟨gb232, 2, none⟩ = some (.int .u32 a0_2) ∧ w14.cell? ⟨gb232, 3, none⟩ = some (.int .u32 a0_3) ∧ w14.cell? ⟨gb232, 4, none⟩ = some (.int .u32 a0_4) ∧ w14.cell? ⟨gb232, 5, none⟩ = some (.slice Ao6 l0_5.length co6) ∧ w14.cell? ⟨gb232, 6, none⟩ = some (.slice Ao7 l0_6.length co7) ∧ w14.cell? ⟨gb232, 7, none⟩ = some (.bool a0_7) := hS_
 obtain ⟨Ao15, co15, eo15⟩ := Kd.R_slice HO238.out
 (first | subst eo15 | (injection eo15 with f1_ f2_ f3_; have f4_ := f1_.symm; have f5_ := f3_.symm; clear f1_ f2_ f3_; subst f4_; subst f5_))
 obtain ⟨Ao17, co17, eo17⟩ := Kd.R_slice HO241.out
 (first | subst eo17 | (injection eo17 with f1_ f2_ f3_; have f4_ := f1_.symm; have f5_ := f3_.symm; clear f1_ f2_ f3_; subst f4_; subst f5_))
 refine norm_ (a' := ?_) ?_ ?_
 rotate_left
 ·simp only [putAll, Act.put, List.setIfInBounds_toArray, List.set_cons_zero, List.set_cons_succ]
  rfl
 refine pure_ (i := 12) (N := some 3) (v := ?_) (a' := ?_) #[true, true, true, true, true, true, true, true, true, true, true, true, true, false] rfl rfl (any_of HT_.out (by kernel_rfl)) (fun _ _ _ h => h) (Or.inl ⟨by rfl, ?_⟩) ?_ ?_
 rotate_left
 ·intro w'
  go_simp
  with_reducible rfl
 rotate_left
 ·simp only [Act.put, List.setIfInBounds_toArray, List.set_cons_zero, List.set_cons_succ, i64_w, i32_w]
  rfl
 refine one_ (i := 13) (N := none) #[true, true, true, true, true, true, true, true, true, true, true, true, true, true] rfl rfl (one_of HT_.out (by kernel_rfl)) (by decide) (fun K hK => ?_)
 have hs16 : w14.cell? ⟨gb242, 0, none⟩ = some (.slice none 0 0) := (blk_cell BK242.out 0).trans rfl
 have hfs16 := blk_frozen BK242.out 0
 have hns16_0 := NB232_242.out
 have hns16_1 := NB233_242.out
 have hms16_0 := NB242_232.out
 have hms16_1 := NB242_233.out
 have hs18 : w14.cell? ⟨gb242, 1, none⟩ = some (.slice none 0 0) := (blk_cell BK242.out 1).trans rfl
 have hfs18 := blk_frozen BK242.out 1
 have hns18_0 := NB232_242.out
 have hns18_1 := NB233_242.out
 have hms18_0 := NB242_232.out
 have hms18_1 := NB242_233.out
 refine skip_ (w1 := ?_) (by rfl) rfl ?_ ?_
 rotate_left
 ·go_simp
  rfl
 refine hK.out _ _ ⟨((cell_far (p := ⟨gb242, _, none⟩) NB232_242.out _).trans (((cell_far (p := ⟨gb242, _, none⟩) NB232_242.out _).trans (hHeld.1)))), ((cell_far (p := ⟨gb242, _, none⟩) NB232_242.out _).trans (((cell_far (p := ⟨gb242, _, none⟩) NB232_242.out _).trans (hHeld.2.1)))), ((cell_far (p := ⟨gb242, _, none⟩) NB232_242.out _).trans (((cell_far (p := ⟨gb242, _, none⟩) NB232_242.out _).trans (hHeld.2.2.1)))), ((cell_far (p := ⟨gb242, _, none⟩) NB232_242.out _).trans (((cell_far (p := ⟨gb242, _, none⟩) NB232_242.out _).trans (hHeld.2.2.2.1)))), ((cell_far (p := ⟨gb242, _, none⟩) NB232_242.out _).trans (((cell_far (p := ⟨gb242, _, none⟩) NB232_242.out _).trans (hHeld.2.2.2.2.1)))), ((cell_far (p := ⟨gb242, _, none⟩) NB232_242.out _).trans (((cell_far (p := ⟨gb242, _, none⟩) NB232_242.out _).trans (hHeld.2.2.2.2.2.1)))), ((cell_far (p := ⟨gb242, _, none⟩) NB232_242.out _).trans (((cell_far (p := ⟨gb242, _, none⟩) NB232_242.out _).trans (hHeld.2.2.2.2.2.2.1)))), ((cell_far (p := ⟨gb242, _, none⟩) NB232_242.out _).trans (((cell_far (p := ⟨gb242, _, none⟩) NB232_242.out _).trans (hHeld.2.2.2.2.2.2.2))))⟩ (fun hHeld => ?_)
 clear hK K
 refine done_ (done_of HT_.out (by kernel_rfl)) ?_
 have hnb19 := NB242_232.out
 have hnc19 := NB232_242.out
 have hnb20 := NB242_233.out
 have hnc20 := NB233_242.out
 have hcz21_0 : w14.cell? ⟨gb242, 0, none⟩ = some (.slice none 0 0) := (blk_cell BK242.out 0).trans rfl
 have hcz21_1 : w14.cell? ⟨gb242, 1, none⟩ = some (.slice none 0 0) := (blk_cell BK242.out 1).trans rfl
 have hfz21_0 := blk_frozen BK242.out 0
 have hfz21_1 := blk_frozen BK242.out 1
 have hnb22 := NB232_233.out
 have hnc22 := NB233_232.out
 have hcz23_0 : w14.cell? ⟨gb232, 0, none⟩ = some (.slice Ao4 l0_0.length co4) := (blk_cell BK232.out 0).trans rfl
 have hcz23_1 : w14.cell? ⟨gb232, 1, none⟩ = some (.slice Ao5 l0_1.length co5) := (blk_cell BK232.out 1).trans rfl
 have hcz23_2 : w14.cell? ⟨gb232, 2, none⟩ = some (.int .u32 a0_2) := (blk_cell BK232.out 2).trans rfl
 have hcz23_3 : w14.cell? ⟨gb232, 3, none⟩ = some (.int .u32 a0_3) := (blk_cell BK232.out 3).trans rfl
 have hcz23_4 : w14.cell? ⟨gb232, 4, none⟩ = some (.int .u32 a0_4) := (blk_cell BK232.out 4).trans rfl
 have hcz23_5 : w14.cell? ⟨gb232, 5, none⟩ = some (.slice Ao6 l0_5.length co6) := (blk_cell BK232.out 5).trans rfl
 have hcz23_6 : w14.cell? ⟨gb232, 6, none⟩ = some (.slice Ao7 l0_6.length co7) := (blk_cell BK232.out 6).trans rfl
 have hcz23_7 : w14.cell? ⟨gb232, 7, none⟩ = some (.bool a0_7) := (blk_cell BK232.out 7).trans rfl
 have hfz23_0 := blk_frozen BK232.out 0
 have hfz23_1 := blk_frozen BK232.out 1
 have hfz23_2 := blk_frozen BK232.out 2
 have hfz23_3 := blk_frozen BK232.out 3
 have hfz23_4 := blk_frozen BK232.out 4
 have hfz23_5 := blk_frozen BK232.out 5
 have hfz23_6 := blk_frozen BK232.out 6
 have hfz23_7 := blk_frozen BK232.out 7
 have hcz24_0 : w14.cell? ⟨gb233, 0, none⟩ = some (.slice none 0 0) := (blk_cell BK233.out 0).trans rfl
 have hcz24_1 : w14.cell? ⟨gb233, 1, none⟩ = some (.slice none 0 0) := (blk_cell BK233.out 1).trans rfl
 have hcz24_2 : w14.cell? ⟨gb233, 2, none⟩ = some (.int .u32 0) := (blk_cell BK233.out 2).trans rfl
 have hcz24_3 : w14.cell? ⟨gb233, 3, none⟩ = some (.int .u32 0) := (blk_cell BK233.out 3).trans rfl
 have hcz24_4 : w14.cell? ⟨gb233, 4, none⟩ = some (.int .u32 0) := (blk_cell BK233.out 4).trans rfl
 have hcz24_5 : w14.cell? ⟨gb233, 5, none⟩ = some (.slice none 0 0) := (blk_cell BK233.out 5).trans rfl
 have hcz24_6 : w14.cell? ⟨gb233, 6, none⟩ = some (.slice none 0 0) := (blk_cell BK233.out 6).trans rfl
 have hcz24_7 : w14.cell? ⟨gb233, 7, none⟩ = some (.bool false) := (blk_cell BK233.out 7).trans rfl
 have hfz24_0 := blk_frozen BK233.out 0
 have hfz24_1 := blk_frozen BK233.out 1
 have hfz24_2 := blk_frozen BK233.out 2
 have hfz24_3 := blk_frozen BK233.out 3
 have hfz24_4 := blk_frozen BK233.out 4
 have hfz24_5 := blk_frozen BK233.out 5
 have hfz24_6 := blk_frozen BK233.out 6
 have hfz24_7 := blk_frozen BK233.out 7
 try go_wp2
 refine bodyPost_ret (results_cell_row rfl _ _ gb233 43 #[.slice Ao15 t236.length co15, .slice Ao17 t239.length co17, .int .u32 a0_2, .int .u32 a0_3, .int .u32 a0_4, .slice Ao6 l0_5.length co6, .slice Ao7 l0_6.length co7, .bool a0_7] (0, 0) _ rfl (by (with_reducible repeat (first | refine blk_drewN ?_ _ | refine blk_drew ?_ | refine blk_alloc ?_ _)); refine blk_put (cs := #[.slice Ao15 t236.length co15, .slice Ao17 t239.length co17, .int .u32 a0_2, .int .u32 a0_3, .int .u32 a0_4, .slice Ao6 l0_5.length co6, .slice Ao7 l0_6.length co7, .bool false]) ?_ 7 _ rfl; (with_reducible repeat (first | refine blk_drewN ?_ _ | refine blk_drew ?_ | refine blk_alloc ?_ _)); refine blk_put (cs := #[.slice Ao15 t236.length co15, .slice Ao17 t239.length co17, .int .u32 a0_2, .int .u32 a0_3, .int .u32 a0_4, .slice Ao6 l0_5.length co6, .slice none 0 0, .bool false]) ?_ 6 _ rfl; (with_reducible repeat (first | refine blk_drewN ?_ _ | refine blk_drew ?_ | refine blk_alloc ?_ _)); refine blk_put (cs := #[.slice Ao15 t236.length co15, .slice Ao17 t239.length co17, .int .u32 a0_2, .int .u32 a0_3, .int .u32 a0_4, .slice none 0 0, .slice none 0 0, .bool false]) ?_ 5 _ rfl; (with_reducible repeat (first | refine blk_drewN ?_ _ | refine blk_drew ?_ | refine blk_alloc ?_ _)); refine blk_put (cs := #[.slice Ao15 t236.length co15, .slice Ao17 t239.length co17, .int .u32 a0_2, .int .u32 a0_3, .int .u32 0, .slice none 0 0, .slice none 0 0, .bool false]) ?_ 4 _ rfl; (with_reducible repeat (first | refine blk_drewN ?_ _ | refine blk_drew ?_ | refine blk_alloc ?_ _)); refine blk_put (cs := #[.slice Ao15 t236.length co15, .slice Ao17 t239.length co17, .int .u32 a0_2, .int .u32 0, .int .u32 0, .slice none 0 0, .slice none 0 0, .bool false]) ?_ 3 _ rfl; (with_reducible repeat (first | refine blk_drewN ?_ _ | refine blk_drew ?_ | refine blk_alloc ?_ _)); refine blk_put (cs := #[.slice Ao15 t236.length co15, .slice Ao17 t239.length co17, .int .u32 0, .int .u32 0, .int .u32 0, .slice none 0 0, .slice none 0 0, .bool false]) ?_ 2 _ rfl; (with_reducible repeat (first | refine blk_drewN ?_ _ | refine blk_drew ?_ | refine blk_alloc ?_ _)); refine blk_put (cs := #[.slice Ao15 t236.length co15, .slice none 0 0, .int .u32 0, .int .u32 0, .int .u32 0, .slice none 0 0, .slice none 0 0, .bool false]) ?_ 1 _ rfl; (with_reducible repeat (first | refine blk_drewN ?_ _ | refine blk_drew ?_ | refine blk_alloc ?_ _)); refine blk_put (cs := #[.slice none 0 0, .slice none 0 0, .int .u32 0, .int .u32 0, .int .u32 0, .slice none 0 0, .slice none 0 0, .bool false]) ?_ 0 _ rfl; (with_reducible repeat (first | refine blk_drewN ?_ _ | refine blk_drew ?_ | refine blk_alloc ?_ _)); refine blk_far ?_ NB233_232.out _; (with_reducible repeat (first | refine blk_drewN ?_ _ | refine blk_drew ?_ | refine blk_alloc ?_ _)); refine blk_far ?_ NB233_232.out _; (with_reducible repeat (first | refine blk_drewN ?_ _ | refine blk_drew ?_ | refine blk_alloc ?_ _)); refine blk_far ?_ NB233_242.out _; (with_reducible repeat (first | refine blk_drewN ?_ _ | refine blk_drew ?_ | refine blk_alloc ?_ _)); refine blk_far ?_ NB233_242.out _; (with_reducible repeat (first | refine blk_drewN ?_ _ | refine blk_drew ?_ | refine blk_alloc ?_ _)); exact BK233.out) Try.underlying43 rfl (by kernel_rfl)) rfl ?_
 exact ⟨_, _, _, _, by first | rfl | (simp [errW_none, errW_some] <;> rfl) | (simp [*, errW_none, errW_some] <;> rfl), by (with_reducible repeat (first | apply Kd.R_alloc | apply Kd.R_drewN | apply Kd.R_drew)); exact Kd.R_mono (Kd.R_far (p := ⟨gb233, 7, none⟩) (Kd.R_far (p := ⟨gb233, 6, none⟩) (Kd.R_far (p := ⟨gb233, 5, none⟩) (Kd.R_far (p := ⟨gb233, 4, none⟩) (Kd.R_far (p := ⟨gb233, 3, none⟩) (Kd.R_far (p := ⟨gb233, 2, none⟩) (Kd.R_far (p := ⟨gb233, 1, none⟩) (Kd.R_far (p := ⟨gb233, 0, none⟩) (Kd.R_far (p := ⟨gb232, 1, none⟩) (Kd.R_far (p := ⟨gb232, 0, none⟩) (Kd.R_far (p := ⟨gb242, 1, none⟩) (Kd.R_far (p := ⟨gb242, 0, none⟩) (Kd.R_types (Kd.R_types (Kd.R_types HO238.out BK242.out (by decide)) BK232.out (by decide)) BK233.out (by decide)) (fun _ hk => hk.1.1.2) (.slice Ao15 t236.length co15)) (fun _ hk => hk.1.1.2) (.slice Ao17 t239.length co17)) (fun _ hk => hk.1.2) (.slice Ao15 t236.length co15)) (fun _ hk => hk.1.2) (.slice Ao17 t239.length co17)) (fun _ hk => hk.2) (.slice Ao15 t236.length co15)) (fun _ hk => hk.2) (.slice Ao17 t239.length co17)) (fun _ hk => hk.2) (.int .u32 a0_2)) (fun _ hk => hk.2) (.int .u32 a0_3)) (fun _ hk => hk.2) (.int .u32 a0_4)) (fun _ hk => hk.2) (.slice Ao6 l0_5.length co6)) (fun _ hk => hk.2) (.slice Ao7 l0_6.length co7)) (fun _ hk => hk.2) (.bool a0_7)) (fun _ hk => ⟨hk.1.1.1.1, hk.1.1.1.2⟩), by (with_reducible repeat (first | apply Kd.R_alloc | apply Kd.R_drewN | apply Kd.R_drew)); exact Kd.R_mono (Kd.R_far (p := ⟨gb233, 7, none⟩) (Kd.R_far (p := ⟨gb233, 6, none⟩) (Kd.R_far (p := ⟨gb233, 5, none⟩) (Kd.R_far (p := ⟨gb233, 4, none⟩) (Kd.R_far (p := ⟨gb233, 3, none⟩) (Kd.R_far (p := ⟨gb233, 2, none⟩) (Kd.R_far (p := ⟨gb233, 1, none⟩) (Kd.R_far (p := ⟨gb233, 0, none⟩) (Kd.R_far (p := ⟨gb232, 1, none⟩) (Kd.R_far (p := ⟨gb232, 0, none⟩) (Kd.R_far (p := ⟨gb242, 1, none⟩) (Kd.R_far (p := ⟨gb242, 0, none⟩) (Kd.R_types (Kd.R_types (Kd.R_types HO241.out BK242.out (by decide)) BK232.out (by decide)) BK233.out (by decide)) (fun _ hk => hk.1.1.2) (.slice Ao15 t236.length co15)) (fun _ hk => hk.1.1.2) (.slice Ao17 t239.length co17)) (fun _ hk => hk.1.2) (.slice Ao15 t236.length co15)) (fun _ hk => hk.1.2) (.slice Ao17 t239.length co17)) (fun _ hk => hk.2) (.slice Ao15 t236.length co15)) (fun _ hk => hk.2) (.slice Ao17 t239.length co17)) (fun _ hk => hk.2) (.int .u32 a0_2)) (fun _ hk => hk.2) (.int .u32 a0_3)) (fun _ hk => hk.2) (.int .u32 a0_4)) (fun _ hk => hk.2) (.slice Ao6 l0_5.length co6)) (fun _ hk => hk.2) (.slice Ao7 l0_6.length co7)) (fun _ hk => hk.2) (.bool a0_7)) (fun _ hk => hk.1.1.1), by (with_reducible repeat (first | apply Kd.R_alloc | apply Kd.R_drewN | apply Kd.R_drew)); exact Kd.R_mono (Kd.R_far (p := ⟨gb233, 7, none⟩) (Kd.R_far (p := ⟨gb233, 6, none⟩) (Kd.R_far (p := ⟨gb233, 5, none⟩) (Kd.R_far (p := ⟨gb233, 4, none⟩) (Kd.R_far (p := ⟨gb233, 3, none⟩) (Kd.R_far (p := ⟨gb233, 2, none⟩) (Kd.R_far (p := ⟨gb233, 1, none⟩) (Kd.R_far (p := ⟨gb233, 0, none⟩) (Kd.R_far (p := ⟨gb232, 1, none⟩) (Kd.R_far (p := ⟨gb232, 0, none⟩) (Kd.R_far (p := ⟨gb242, 1, none⟩) (Kd.R_far (p := ⟨gb242, 0, none⟩) (Kd.R_types (Kd.R_types (Kd.R_types HO0_5.out BK242.out (by decide)) BK232.out (by decide)) BK233.out (by decide)) (fun _ hk => hk.1.1.2) (.slice Ao15 t236.length co15)) (fun _ hk => hk.1.1.2) (.slice Ao17 t239.length co17)) (fun _ hk => hk.1.2) (.slice Ao15 t236.length co15)) (fun _ hk => hk.1.2) (.slice Ao17 t239.length co17)) (fun _ hk => hk.2) (.slice Ao15 t236.length co15)) (fun _ hk => hk.2) (.slice Ao17 t239.length co17)) (fun _ hk => hk.2) (.int .u32 a0_2)) (fun _ hk => hk.2) (.int .u32 a0_3)) (fun _ hk => hk.2) (.int .u32 a0_4)) (fun _ hk => hk.2) (.slice Ao6 l0_5.length co6)) (fun _ hk => hk.2) (.slice Ao7 l0_6.length co7)) (fun _ hk => hk.2) (.bool a0_7)) (fun _ hk => ⟨hk.1.1.1.1, hk.1.1.1.2⟩), by (with_reducible repeat (first | apply Kd.R_alloc | apply Kd.R_drewN | apply Kd.R_drew)); exact Kd.R_mono (Kd.R_far (p := ⟨gb233, 7, none⟩) (Kd.R_far (p := ⟨gb233, 6, none⟩) (Kd.R_far (p := ⟨gb233, 5, none⟩) (Kd.R_far (p := ⟨gb233, 4, none⟩) (Kd.R_far (p := ⟨gb233, 3, none⟩) (Kd.R_far (p := ⟨gb233, 2, none⟩) (Kd.R_far (p := ⟨gb233, 1, none⟩) (Kd.R_far (p := ⟨gb233, 0, none⟩) (Kd.R_far (p := ⟨gb232, 1, none⟩) (Kd.R_far (p := ⟨gb232, 0, none⟩) (Kd.R_far (p := ⟨gb242, 1, none⟩) (Kd.R_far (p := ⟨gb242, 0, none⟩) (Kd.R_types (Kd.R_types (Kd.R_types HO0_6.out BK242.out (by decide)) BK232.out (by decide)) BK233.out (by decide)) (fun _ hk => hk.1.1.2) (.slice Ao15 t236.length co15)) (fun _ hk => hk.1.1.2) (.slice Ao17 t239.length co17)) (fun _ hk => hk.1.2) (.slice Ao15 t236.length co15)) (fun _ hk => hk.1.2) (.slice Ao17 t239.length co17)) (fun _ hk => hk.2) (.slice Ao15 t236.length co15)) (fun _ hk => hk.2) (.slice Ao17 t239.length co17)) (fun _ hk => hk.2) (.int .u32 a0_2)) (fun _ hk => hk.2) (.int .u32 a0_3)) (fun _ hk => hk.2) (.int .u32 a0_4)) (fun _ hk => hk.2) (.slice Ao6 l0_5.length co6)) (fun _ hk => hk.2) (.slice Ao7 l0_6.length co7)) (fun _ hk => hk.2) (.bool a0_7)) (fun _ hk => hk.1.1.1), by repeat (first | (with_reducible first | exact HB.out | apply below_alloc | apply pw_below_drewN | apply below_drew1 | refine below_set ?_ GE232.out | refine below_set ?_ GE233.out | refine below_set ?_ GE242.out) | exact HB.out), by repeat (first | (with_reducible first | exact HK.out | apply Kept.alloc | apply Kept.drewN | apply Kept.drew | refine Kept.setCell ?_ (.inr GW232.out) _ | refine Kept.setCell ?_ (.inr GW233.out) _ | refine Kept.setCell ?_ (.inr GW242.out) _) | exact HK.out)⟩

end Go.Proofs.Ytpfegfkniilobaa.XHeap
