-- Written by this session's own program (wip/own_print.py) over the kit's print, with this session's hand-proved contracts in their places; Lean checks it.
import Derived.Test.YtpfegfkniilobaaXSchemaz0
import Derived.Test.YtpfegfkniilobaaBs
namespace Go.Proofs.Ytpfegfkniilobaa.XSchema
open Go.RowKit Go.Proofs.YtpfegfkniilobaaW.PrintWords Go.Proofs.YtpfegfkniilobaaW.PrintLast Go.Proofs.YtpfegfkniilobaaW.PrintMore
attribute [local go_sem] max2_int min2_int max_two min_two max_three min_three max_four min_four   -- for this text's walks alone
set_option linter.unusedVariables false
set_option linter.unusedSimpArgs false

/-! ### rowlocklaw12_SchemaPuts: function 8 -/
mutual
def rowlocklaw12_SchemaPuts.j0 : Nat → ByteArray → Bool → List (S84) → List (S135) → Option (Bool)
 | 0, _, _, _, _ => none
 | k + 1, x1, x15, x155000, x155001 => if x15 = true then ((rowlocklaw12_fixed.f).bind fun t156 => (some t156)) else ((schema_Put.f k x155000 x155001).bind fun bt157 => ((schema_Name.f k x1).bind fun t161 => ((rowlockref12_Name.f k x1).bind fun t162 => (if (t161 != t162) = true then (rowlocklaw12_SchemaPuts.j1 k bt157.1 bt157.2 true x155000 x155001) else ((schema_May.f k x155000 x155001).bind fun t163 => ((rowlockref12_May.f k x155000 x155001).bind fun t164 => (rowlocklaw12_SchemaPuts.j1 k bt157.1 bt157.2 (t163 != t164) x155000 x155001)))))))
def rowlocklaw12_SchemaPuts.j1 : Nat → List Int → Int → Bool → List (S84) → List (S135) → Option (Bool)
 | 0, _, _, _, _, _ => none
 | k + 1, x5, x6, x33, x155000, x155001 => if x33 = true then (some false) else ((rowlockref12_May.f k x155000 x155001).bind fun t165 => (if t165 = true then ((schema_Get.f k x5).bind fun bt167 => ((rowlocklaw12_fixed.f).bind fun t175 => (if t175 = true then (if x6 = 0 then ((rowlockref12_Put.f k x155000 x155001).bind fun t176 => (if (strOfNums x5).toList = t176.toList then (if bt167.2.2 = 0 then ((schema_Same.f k bt167.1 bt167.2.1 x155000 x155001).bind fun t177 => (some t177)) else (some false)) else (some false))) else (some false)) else (some false)))) else ((rowlocklaw12_fixed.f).bind fun t166 => (if t166 = true then (if x6 = 1 then (some ((x5.length : Int) == 0)) else (some false)) else (some false)))))
end
def rowlocklaw12_SchemaPuts.f (k : Nat) (l0_0 : List (S84)) (l0_1 : List (S135)) (a1 : ByteArray) : Option (Bool) := (rowlockref12_Great.f k l0_0 l0_1).bind fun t155 => (if t155 = true then (rowlocklaw12_SchemaPuts.j0 k a1 true l0_0 l0_1) else (rowlocklaw12_SchemaPuts.j0 k a1 (decide ((a1.size : Int) > 3000)) l0_0 l0_1))
theorem rowlocklaw12_SchemaPuts.mono_l : ∀ k, (∀ y0 y1 y2 y3, LeO (rowlocklaw12_SchemaPuts.j0 k y0 y1 y2 y3) (rowlocklaw12_SchemaPuts.j0 (k + 1) y0 y1 y2 y3)) ∧ (∀ y0 y1 y2 y3 y4, LeO (rowlocklaw12_SchemaPuts.j1 k y0 y1 y2 y3 y4) (rowlocklaw12_SchemaPuts.j1 (k + 1) y0 y1 y2 y3 y4))
 | 0 => ⟨fun _ _ _ _ r h => by simp [rowlocklaw12_SchemaPuts.j0] at h, fun _ _ _ _ _ r h => by simp [rowlocklaw12_SchemaPuts.j1] at h⟩
 | k + 1 => by
  obtain ⟨ih0, ih1⟩ := rowlocklaw12_SchemaPuts.mono_l k; refine ⟨?_, ?_⟩
  ·intro y0 y1 y2 y3
   unfold rowlocklaw12_SchemaPuts.j0
   repeat' first
   | (with_reducible exact ih0 _ _ _ _)
   | (with_reducible exact ih1 _ _ _ _ _)
   | (with_reducible exact rowlockref12_Great.mono _ _ _)
   | (with_reducible exact rowlockref12_May.mono _ _ _)
   | (with_reducible exact rowlockref12_Name.mono _ _)
   | (with_reducible exact rowlockref12_Put.mono _ _ _)
   | (with_reducible exact schema_Get.mono _ _)
   | (with_reducible exact schema_May.mono _ _ _)
   | (with_reducible exact schema_Name.mono _ _)
   | (with_reducible exact schema_Put.mono _ _ _)
   | (with_reducible exact schema_Same.mono _ _ _ _ _)
   | (with_reducible exact LeO.refl _)
   | (with_reducible exact LeO.none _)
   | (with_reducible refine LeO.ite ?_ ?_)
   | (with_reducible refine LeO.bind ?_ (fun _ => ?_))
   | exact ih0 _ _ _ _
   | exact ih1 _ _ _ _ _
   | exact rowlockref12_Great.mono _ _ _
   | exact rowlockref12_May.mono _ _ _
   | exact rowlockref12_Name.mono _ _
   | exact rowlockref12_Put.mono _ _ _
   | exact schema_Get.mono _ _
   | exact schema_May.mono _ _ _
   | exact schema_Name.mono _ _
   | exact schema_Put.mono _ _ _
   | exact schema_Same.mono _ _ _ _ _
   | exact LeO.none _
   | refine LeO.ite ?_ ?_
   | refine LeO.bind ?_ (fun _ => ?_)
  ·intro y0 y1 y2 y3 y4
   unfold rowlocklaw12_SchemaPuts.j1
   repeat' first
   | (with_reducible exact ih0 _ _ _ _)
   | (with_reducible exact ih1 _ _ _ _ _)
   | (with_reducible exact rowlockref12_Great.mono _ _ _)
   | (with_reducible exact rowlockref12_May.mono _ _ _)
   | (with_reducible exact rowlockref12_Name.mono _ _)
   | (with_reducible exact rowlockref12_Put.mono _ _ _)
   | (with_reducible exact schema_Get.mono _ _)
   | (with_reducible exact schema_May.mono _ _ _)
   | (with_reducible exact schema_Name.mono _ _)
   | (with_reducible exact schema_Put.mono _ _ _)
   | (with_reducible exact schema_Same.mono _ _ _ _ _)
   | (with_reducible exact LeO.refl _)
   | (with_reducible exact LeO.none _)
   | (with_reducible refine LeO.ite ?_ ?_)
   | (with_reducible refine LeO.bind ?_ (fun _ => ?_))
   | exact ih0 _ _ _ _
   | exact ih1 _ _ _ _ _
   | exact rowlockref12_Great.mono _ _ _
   | exact rowlockref12_May.mono _ _ _
   | exact rowlockref12_Name.mono _ _
   | exact rowlockref12_Put.mono _ _ _
   | exact schema_Get.mono _ _
   | exact schema_May.mono _ _ _
   | exact schema_Name.mono _ _
   | exact schema_Put.mono _ _ _
   | exact schema_Same.mono _ _ _ _ _
   | exact LeO.none _
   | refine LeO.ite ?_ ?_
   | refine LeO.bind ?_ (fun _ => ?_)
theorem rowlocklaw12_SchemaPuts.mono : ∀ a0 a1 a2 k, LeO (rowlocklaw12_SchemaPuts.f k a0 a1 a2) (rowlocklaw12_SchemaPuts.f (k + 1) a0 a1 a2) := by
 intro a0 a1 a2 k; obtain ⟨ih0, ih1⟩ := rowlocklaw12_SchemaPuts.mono_l k
 unfold rowlocklaw12_SchemaPuts.f
 repeat' first
   | (with_reducible exact ih0 _ _ _ _)
   | (with_reducible exact ih1 _ _ _ _ _)
   | (with_reducible exact rowlockref12_Great.mono _ _ _)
   | (with_reducible exact rowlockref12_May.mono _ _ _)
   | (with_reducible exact rowlockref12_Name.mono _ _)
   | (with_reducible exact rowlockref12_Put.mono _ _ _)
   | (with_reducible exact schema_Get.mono _ _)
   | (with_reducible exact schema_May.mono _ _ _)
   | (with_reducible exact schema_Name.mono _ _)
   | (with_reducible exact schema_Put.mono _ _ _)
   | (with_reducible exact schema_Same.mono _ _ _ _ _)
   | (with_reducible exact LeO.refl _)
   | (with_reducible exact LeO.none _)
   | (with_reducible refine LeO.ite ?_ ?_)
   | (with_reducible refine LeO.bind ?_ (fun _ => ?_))
   | exact ih0 _ _ _ _
   | exact ih1 _ _ _ _ _
   | exact rowlockref12_Great.mono _ _ _
   | exact rowlockref12_May.mono _ _ _
   | exact rowlockref12_Name.mono _ _
   | exact rowlockref12_Put.mono _ _ _
   | exact schema_Get.mono _ _
   | exact schema_May.mono _ _ _
   | exact schema_Name.mono _ _
   | exact schema_Put.mono _ _ _
   | exact schema_Same.mono _ _ _ _ _
   | exact LeO.none _
   | refine LeO.ite ?_ ?_
   | refine LeO.bind ?_ (fun _ => ?_)
def rowlocklaw12_SchemaPuts.T4 : Bool × List (List Nat × List Nat) := (true, [([], []), ([0], [0]), ([], []), ([2, 1], [2]), ([1, 3], [1, 3]), ([4, 3], [4]), ([5], [5]), ([6, 5, 5], [5, 6]), ([5], [5]), ([8, 7, 5], [5, 8]), ([7, 9, 5], [5, 7, 9]), ([5, 10], [5, 10])])
def rowlocklaw12_SchemaPuts.B4 : List Nat := [0, 1, 0, 7, 15, 31, 63, 127, 63, 511, 1023, 2047]
theorem rowlocklaw12_SchemaPuts.tab4 : rtab .any (opsOf Try.f8 4) = rowlocklaw12_SchemaPuts.T4 := by kernel_rfl
theorem rowlocklaw12_SchemaPuts.bits4 : waitsOk rowlocklaw12_SchemaPuts.T4.2 rowlocklaw12_SchemaPuts.B4 = true := by kernel_rfl
def rowlocklaw12_SchemaPuts.T9 : Bool × List (List Nat × List Nat) := (true, [([], []), ([0, 0], [0]), ([1], [1]), ([2, 1], [1, 2]), ([1, 3], [1, 3]), ([4, 1], [4]), ([5], [5]), ([6, 5], [5, 6]), ([5], [5]), ([8, 5, 5], [5, 8]), ([7, 9, 5], [5, 7, 9]), ([5, 10], [5, 10]), ([11, 9], [11]), ([12], [12]), ([13, 12], [12, 13]), ([12, 14], [12, 14]), ([15, 12], [15]), ([16], [16]), ([16], [16]), ([17, 18, 16, 16], [16, 17, 18]), ([16, 19], [16, 19]), ([20, 19, 0, 1, 2, 3, 4, 5, 6, 7, 8, 9, 10, 11, 12, 13, 14, 15, 16, 17, 18, 19, 20], [20])])
def rowlocklaw12_SchemaPuts.B9 : List Nat := [0, 1, 3, 7, 15, 31, 63, 127, 63, 319, 1023, 2047, 4095, 8191, 16383, 32767, 65535, 131071, 131071, 524287, 1048575, 2097151]
theorem rowlocklaw12_SchemaPuts.tab9 : rtab .any (opsOf Try.f8 9) = rowlocklaw12_SchemaPuts.T9 := by kernel_rfl
theorem rowlocklaw12_SchemaPuts.bits9 : waitsOk rowlocklaw12_SchemaPuts.T9.2 rowlocklaw12_SchemaPuts.B9 = true := by kernel_rfl
set_option maxHeartbeats 8000000 in
set_option maxRecDepth 100000 in
theorem rowlocklaw12_SchemaPuts.calls (k : Nat) (A0_0 : Option Addr) (c0_0 : Nat) (l0_0 : List (S84)) (A0_1 : Option Addr) (c0_1 : Nat) (l0_1 : List (S135)) (a1 : ByteArray) (r : Bool) (w : World) (hr0_0 : Kd.C k84 w A0_0 l0_0.length l0_0) (hc0_0 : l0_0.length ≤ c0_0) (hr0_1 : Kd.C k135 w A0_1 l0_1.length l0_1) (hc0_1 : l0_1.length ≤ c0_1) (h : rowlocklaw12_SchemaPuts.f k l0_0 l0_1 a1 = some r) :
  Calls Try.prog 8 #[.agg #[.slice A0_0 l0_0.length c0_0, .slice A0_1 l0_1.length c0_1], .string a1] w fun e w' => e = .returned (.bool r) ∧ Below w.heap.size w w' := by
 have hu80 := Try.underlying80; have HR0_0 := Aside0.mk hr0_0; have HC0_0 := Aside0.mk hc0_0; clear hr0_0 hc0_0; have HR0_1 := Aside0.mk hr0_1; have HC0_1 := Aside0.mk hc0_1; clear hr0_1 hc0_1; have HB := Aside0.mk (Below.refl w.heap.size w); have H : ((rowlockref12_Great.f k l0_0 l0_1).bind fun t155 => (if t155 = true then (rowlocklaw12_SchemaPuts.j0 k a1 true l0_0 l0_1) else (rowlocklaw12_SchemaPuts.j0 k a1 (decide ((a1.size : Int) > 3000)) l0_0 l0_1))) = some r := h; clear h; have HC3 := Aside0.mk H; clear H
 go_enter Try.func8, Try.ntmps8
 go_upto_region 1 with (first | ((with_reducible refine gate_dst (N := 2) rfl ?_); (try (refine gate_guard (by rfl) ?_; dsimp only)); refine box_event ?hg (N := 2) ?hd (cs := #[.slice A0_0 l0_0.length c0_0, .slice A0_1 l0_1.length c0_1]) (t := 80) ?hr ?_; (case hd => rfl); (case hg => rfl); (case hr => first | (go_simp; done) | (go_simp; rfl)); intro gb154 hg w4 hbox hb; have n0_ := Aside0.mk (below_step HB.out hb); have n1_ := Aside0.mk (hbox); have n2_ := Aside0.mk ((by rw [hg]; exact (below_size HB.out) : w.heap.size ≤ gb154)); have n3_ := Aside0.mk ((by rw [hg]; exact (below_size HB.out) : w.heap.size ≤ gb154)); clear HB; have HB := n0_; have BK154 := n1_; have GW154 := n2_; have GE154 := n3_; clear n0_ n1_ n2_ n3_; clear hb hbox hg))
 (try simp only [Act.put, List.setIfInBounds_toArray, List.set_cons_zero, List.set_cons_succ])
 go_cut [15] (fun v15 wc => ∃ (kq : Nat) (x15_2 : Bool), v15 = .bool x15_2 ∧ Aside0 (rowlocklaw12_SchemaPuts.j0 kq a1 x15_2 l0_0 l0_1 = some r) ∧ Aside0 (kq ≤ k) ∧ Aside0 (wc.heap[gb154]? = some (.cells #[(.slice A0_0 l0_0.length c0_0), (.slice A0_1 l0_1.length c0_1)] 80 (0, 0))) ∧ Aside0 (Below w.heap.size w wc))
 case first =>
  have H := HC3.out; clear HC3; replace H := Option.bind_eq_some_iff.mp H; obtain ⟨t155, A50, H⟩ := H; replace H : (if t155 = true then (rowlocklaw12_SchemaPuts.j0 k a1 true l0_0 l0_1) else (rowlocklaw12_SchemaPuts.j0 k a1 (decide ((a1.size : Int) > 3000)) l0_0 l0_1)) = some r := H; have A5 := Aside0.mk A50; clear A50
  by_cases c6 : t155 = true
  ·subst c6
   have H1 : (rowlocklaw12_SchemaPuts.j0 k a1 true l0_0 l0_1) = some r := by rw [if_pos rfl] at H; exact H
   clear H; have H := H1; clear H1; have H' := Aside0.mk H; clear H; have hcz7_0 := (blk_cell BK154.out 0).trans rfl; have hcz7_1 := (blk_cell BK154.out 1).trans rfl; have hfz7_0 := blk_frozen BK154.out 0; have hfz7_1 := blk_frozen BK154.out 1
   go_wp2_with (first | ((with_reducible refine gate_callee (f := 26) rfl ?_); refine goesL_ (some 10) rfl rfl Try.func26 (by kernel_rfl) rfl #[.agg #[.slice A0_0 l0_0.length c0_0, .slice A0_1 l0_1.length c0_1]] rfl (by (try simp only [List.map_toArray, List.map_cons, List.map_nil]); first | done | rfl) ?_; (with_reducible refine (rowlockref12_Great.calls k _ _ l0_0 _ _ l0_1 true _ ?side1 ?side2 ?side3 ?side4 A5.out).mono ?_); (case side1 => repeat (first | exact (Kd.C_below HR0_0.out HB.out) | (with_reducible refine Kd.C_alloc ?_ _) | (with_reducible refine Kd.C_drewN ?_ _) | (with_reducible refine Kd.C_drew ?_))); (case side2 => exact HC0_0.out); (case side3 => repeat (first | exact (Kd.C_below HR0_1.out HB.out) | (with_reducible refine Kd.C_alloc ?_ _) | (with_reducible refine Kd.C_drewN ?_ _) | (with_reducible refine Kd.C_drew ?_))); (case side4 => exact HC0_1.out); rintro e w8 ⟨rfl, hb⟩; refine ⟨_, rfl, ?_⟩; have n0_ := Aside0.mk (blk_below (g := gb154) (o := .cells #[.slice A0_0 l0_0.length c0_0, .slice A0_1 l0_1.length c0_1] 80 (0, 0)) BK154.out hb); have n1_ := Aside0.mk (below_step HB.out hb); clear BK154; clear HB; have BK154 := n0_; have HB := n1_; clear n0_ n1_; (try clear hb); (try clear hb2); (try clear hk); (try clear hi)))
   go_meet
   case rel => exact ⟨_, (true), (by first | rfl | (simp; done) | (simp [*]; done)), H', ⟨by first | omega | exact Nat.le_refl _⟩, ⟨by (with_reducible repeat (first | refine blk_drewN ?_ _ | refine blk_drew ?_ | refine blk_alloc ?_ _)); exact BK154.out⟩, ⟨by repeat (first | (with_reducible first | exact HB.out | apply below_alloc | apply pw_below_drewN | apply below_drew1 | refine below_set ?_ GE154.out) | exact HB.out)⟩⟩
  ·replace c6 := Bool.eq_false_iff.mpr c6
   subst c6; have H1 : (rowlocklaw12_SchemaPuts.j0 k a1 (decide ((a1.size : Int) > 3000)) l0_0 l0_1) = some r := by rw [if_neg (show ¬ (false = true) by decide)] at H; exact H
   clear H; have H := H1; clear H1; have H' := Aside0.mk H; clear H; have hcz9_0 := (blk_cell BK154.out 0).trans rfl; have hcz9_1 := (blk_cell BK154.out 1).trans rfl; have hfz9_0 := blk_frozen BK154.out 0; have hfz9_1 := blk_frozen BK154.out 1
   go_wp2_with (first | ((with_reducible refine gate_callee (f := 26) rfl ?_); refine goesL_ (some 10) rfl rfl Try.func26 (by kernel_rfl) rfl #[.agg #[.slice A0_0 l0_0.length c0_0, .slice A0_1 l0_1.length c0_1]] rfl (by (try simp only [List.map_toArray, List.map_cons, List.map_nil]); first | done | rfl) ?_; (with_reducible refine (rowlockref12_Great.calls k _ _ l0_0 _ _ l0_1 false _ ?side1 ?side2 ?side3 ?side4 A5.out).mono ?_); (case side1 => repeat (first | exact (Kd.C_below HR0_0.out HB.out) | (with_reducible refine Kd.C_alloc ?_ _) | (with_reducible refine Kd.C_drewN ?_ _) | (with_reducible refine Kd.C_drew ?_))); (case side2 => exact HC0_0.out); (case side3 => repeat (first | exact (Kd.C_below HR0_1.out HB.out) | (with_reducible refine Kd.C_alloc ?_ _) | (with_reducible refine Kd.C_drewN ?_ _) | (with_reducible refine Kd.C_drew ?_))); (case side4 => exact HC0_1.out); rintro e w10 ⟨rfl, hb⟩; refine ⟨_, rfl, ?_⟩; have n0_ := Aside0.mk (blk_below (g := gb154) (o := .cells #[.slice A0_0 l0_0.length c0_0, .slice A0_1 l0_1.length c0_1] 80 (0, 0)) BK154.out hb); have n1_ := Aside0.mk (below_step HB.out hb); clear BK154; clear HB; have BK154 := n0_; have HB := n1_; clear n0_ n1_; (try clear hb); (try clear hb2); (try clear hk); (try clear hi)))
   go_meet
   case rel => exact ⟨_, (decide ((a1.size : Int) > 3000)), (by first | rfl | (simp; done) | (simp [*]; done)), H', ⟨by first | omega | exact Nat.le_refl _⟩, ⟨by (with_reducible repeat (first | refine blk_drewN ?_ _ | refine blk_drew ?_ | refine blk_alloc ?_ _)); exact BK154.out⟩, ⟨by repeat (first | (with_reducible first | exact HB.out | apply below_alloc | apply pw_below_drewN | apply below_drew1 | refine below_set ?_ GE154.out) | exact HB.out)⟩⟩
 case rest =>
  clear HC3; (try clear c2); (try clear p2); (try clear c6); (try clear c8); (try clear hcz7_0); (try clear hcz7_1); (try clear hcz9_0); (try clear hcz9_1); (try clear hfz7_0); (try clear hfz7_1); (try clear hfz9_0); (try clear hfz9_1); obtain ⟨kq, x15_2, rfl, HA, HJ2, BK154, HB⟩ := hcut
  cases kq with
  | zero => exact absurd HA.out (by simp [rowlocklaw12_SchemaPuts.j0])
  | succ kj2 =>
   have H := HA.out; clear HA; simp only [rowlocklaw12_SchemaPuts.j0] at H
   by_cases c11 : x15_2 = true
   ·subst c11
    have H1 : ((rowlocklaw12_fixed.f).bind fun t156 => (some t156)) = some r := by rw [if_pos rfl] at H; exact H
    clear H; have H := H1; clear H1; replace H := Option.bind_eq_some_iff.mp H; obtain ⟨t156, A120, H⟩ := H; replace H : (some t156) = some r := H; have A12 := Aside0.mk A120; clear A120; obtain rfl := Option.some.inj H
    go_wp2_with (first | ((with_reducible refine gate_callee (f := 27) rfl ?_); refine goesL_ (some 16) rfl rfl Try.func27 (by kernel_rfl) rfl #[] rfl (by (try simp only [List.map_toArray, List.map_cons, List.map_nil]); first | done | rfl) ?_; (with_reducible refine (rowlocklaw12_fixed.calls  t156 _ A12.out).mono ?_); rintro e w13 ⟨rfl, hb⟩; refine ⟨_, rfl, ?_⟩; have n0_ := Aside0.mk (blk_below (g := gb154) (o := .cells #[.slice A0_0 l0_0.length c0_0, .slice A0_1 l0_1.length c0_1] 80 (0, 0)) BK154.out hb); have n1_ := Aside0.mk (below_step HB.out hb); clear BK154; clear HB; have BK154 := n0_; have HB := n1_; clear n0_ n1_; (try clear hb); (try clear hb2); (try clear hk); (try clear hi)))
    go_ret
    exact ⟨by first | rfl | (simp [errW_none, errW_some] <;> rfl) | (simp [*, errW_none, errW_some] <;> rfl), by repeat (first | (with_reducible first | exact HB.out | apply below_alloc | apply pw_below_drewN | apply below_drew1 | refine below_set ?_ GE154.out) | exact HB.out)⟩
   ·replace c11 := Bool.eq_false_iff.mpr c11
    subst c11; have H1 : ((schema_Put.f kj2 l0_0 l0_1).bind fun bt157 => ((schema_Name.f kj2 a1).bind fun t161 => ((rowlockref12_Name.f kj2 a1).bind fun t162 => (if (t161 != t162) = true then (rowlocklaw12_SchemaPuts.j1 kj2 bt157.1 bt157.2 true l0_0 l0_1) else ((schema_May.f kj2 l0_0 l0_1).bind fun t163 => ((rowlockref12_May.f kj2 l0_0 l0_1).bind fun t164 => (rowlocklaw12_SchemaPuts.j1 kj2 bt157.1 bt157.2 (t163 != t164) l0_0 l0_1))))))) = some r := by rw [if_neg (show ¬ (false = true) by decide)] at H; exact H
    clear H; have H := H1; clear H1; replace H := Option.bind_eq_some_iff.mp H; obtain ⟨⟨t157, t160⟩, A140, H⟩ := H; replace H : ((schema_Name.f kj2 a1).bind fun t161 => ((rowlockref12_Name.f kj2 a1).bind fun t162 => (if (t161 != t162) = true then (rowlocklaw12_SchemaPuts.j1 kj2 t157 t160 true l0_0 l0_1) else ((schema_May.f kj2 l0_0 l0_1).bind fun t163 => ((rowlockref12_May.f kj2 l0_0 l0_1).bind fun t164 => (rowlocklaw12_SchemaPuts.j1 kj2 t157 t160 (t163 != t164) l0_0 l0_1)))))) = some r := H; have A14 := Aside0.mk A140; clear A140; have HC15 := Aside0.mk H; clear H; have hcz16_0 := (blk_cell BK154.out 0).trans rfl; have hcz16_1 := (blk_cell BK154.out 1).trans rfl; have hfz16_0 := blk_frozen BK154.out 0; have hfz16_1 := blk_frozen BK154.out 1
    go_upto_region 4 with (first | ((with_reducible refine gate_callee (f := 33) rfl ?_); refine goesL_ (some 19) rfl rfl Try.func33 (by kernel_rfl) rfl #[.agg #[.slice A0_0 l0_0.length c0_0, .slice A0_1 l0_1.length c0_1]] rfl (by (try simp only [List.map_toArray, List.map_cons, List.map_nil]); first | done | rfl) ?_; (with_reducible refine (schema_Put.calls kj2 _ _ l0_0 _ _ l0_1 t157 t160 _ ?side1 ?side2 ?side3 ?side4 A14.out).mono ?_); (case side1 => repeat (first | exact (Kd.C_below HR0_0.out HB.out) | (with_reducible refine Kd.C_alloc ?_ _) | (with_reducible refine Kd.C_drewN ?_ _) | (with_reducible refine Kd.C_drew ?_))); (case side2 => exact HC0_0.out); (case side3 => repeat (first | exact (Kd.C_below HR0_1.out HB.out) | (with_reducible refine Kd.C_alloc ?_ _) | (with_reducible refine Kd.C_drewN ?_ _) | (with_reducible refine Kd.C_drew ?_))); (case side4 => exact HC0_1.out); rintro e w17 ⟨v158, rfl, ho0, hb⟩; refine ⟨_, rfl, ?_⟩; have n0_ := Aside0.mk (Kd.R_lower ho0 (below_size HB.out)); have n1_ := Aside0.mk (blk_below (g := gb154) (o := .cells #[.slice A0_0 l0_0.length c0_0, .slice A0_1 l0_1.length c0_1] 80 (0, 0)) BK154.out hb); have n2_ := Aside0.mk (below_step HB.out hb); clear BK154; clear HB; have HO159 := n0_; have BK154 := n1_; have HB := n2_; clear n0_ n1_ n2_; (try clear hb); (try clear hb2); (try clear hk); (try clear hi); (try clear ho0)))
    (try simp only [Act.put, List.setIfInBounds_toArray, List.set_cons_zero, List.set_cons_succ])
    go_cut [33] (fun v33 wc => ∃ (kq : Nat) (x33_14 : Bool), v33 = .bool x33_14 ∧ Aside0 (rowlocklaw12_SchemaPuts.j1 kq t157 t160 x33_14 l0_0 l0_1 = some r) ∧ Aside0 (kq ≤ kj2) ∧ Aside0 (Kd.R (Kd.int .u8) 5 wc w.heap.size (fun _ => True) v158 t157) ∧ Aside0 (wc.heap[gb154]? = some (.cells #[(.slice A0_0 l0_0.length c0_0), (.slice A0_1 l0_1.length c0_1)] 80 (0, 0))) ∧ Aside0 (Below w.heap.size w wc))
    case first =>
     have H := HC15.out; clear HC15; replace H := Option.bind_eq_some_iff.mp H; obtain ⟨t161, A180, H⟩ := H; replace H : ((rowlockref12_Name.f kj2 a1).bind fun t162 => (if (t161 != t162) = true then (rowlocklaw12_SchemaPuts.j1 kj2 t157 t160 true l0_0 l0_1) else ((schema_May.f kj2 l0_0 l0_1).bind fun t163 => ((rowlockref12_May.f kj2 l0_0 l0_1).bind fun t164 => (rowlocklaw12_SchemaPuts.j1 kj2 t157 t160 (t163 != t164) l0_0 l0_1))))) = some r := H; have A18 := Aside0.mk A180; clear A180; replace H := Option.bind_eq_some_iff.mp H; obtain ⟨t162, A190, H⟩ := H; replace H : (if (t161 != t162) = true then (rowlocklaw12_SchemaPuts.j1 kj2 t157 t160 true l0_0 l0_1) else ((schema_May.f kj2 l0_0 l0_1).bind fun t163 => ((rowlockref12_May.f kj2 l0_0 l0_1).bind fun t164 => (rowlocklaw12_SchemaPuts.j1 kj2 t157 t160 (t163 != t164) l0_0 l0_1)))) = some r := H; have A19 := Aside0.mk A190; clear A190
     by_cases c20 : (t161 != t162) = true
     ·rw [if_pos c20] at H
      have c20b0 : (t161 != t162) = true := c20; (try (have c20b1 : decide (t161 = t162) = false := by simpa using c20)); (try (have c20b2 : (t161 == t162) = false := by simpa using c20)); (try (have c20b3 : ¬ (t161 = t162) := by simpa using c20)); clear c20
      (first | rw [c20b0] | (simp only [i64_w, i32_w]; rw [c20b0]) | skip)
      have H' := Aside0.mk H; clear H
      try go_wp2
      have n0_ := Aside0.mk (Kd.R_drew HO159.out); have n1_ := Aside0.mk (blk_drew BK154.out); have n2_ := Aside0.mk (below_drew1 HB.out); clear HO159; clear BK154; clear HB; have HO159 := n0_; have BK154 := n1_; have HB := n2_; clear n0_ n1_ n2_; refine start_ (n := 12) (S := fun w' => True) (ds := []) #[false, false, false, false, false, false, false, false, false, false, false, false] (by kernel_rfl) rfl rfl trivial (fun hHeld => ?_); refine with_tabW rowlocklaw12_SchemaPuts.tab4 rowlocklaw12_SchemaPuts.bits4 (fun HT_ HW_ => ?_); generalize w17.drew = w21 at HO159 BK154 HB hHeld ⊢; refine pure_ (i := 0) (N := some 22) (v := ?_) (a' := ?_) (bs 12 1) rfl rfl (any_of HT_.out (by kernel_rfl)) (fun _ _ _ h => h) (Or.inl ⟨by rfl, ?_⟩) ?_ ?_; rotate_left
      ·intro w'
       go_simp
       with_reducible rfl
      rotate_left
      ·simp only [Act.put, List.setIfInBounds_toArray, List.set_cons_zero, List.set_cons_succ, i64_w, i32_w]
       rfl
      refine pure_ (i := 2) (N := some 24) (v := ?_) (a' := ?_) (bs 12 5) rfl rfl (any_of HT_.out (by kernel_rfl)) (fun _ _ _ h => h) (Or.inl ⟨by rfl, ?_⟩) ?_ ?_; rotate_left
      ·intro w'
       go_simp
       with_reducible rfl
      rotate_left
      ·simp only [Act.put, List.setIfInBounds_toArray, List.set_cons_zero, List.set_cons_succ, i64_w, i32_w]
       rfl
      refine one_ (i := 1) (N := some 23) (bs 12 7) rfl rfl (one_of HT_.out (by kernel_rfl)) (by decide) (fun K hK => ?_); refine goes_ Try.func34 (by kernel_rfl) rfl #[.string a1] (by rfl) rfl rfl (by (try simp only [List.map_toArray, List.map_cons, List.map_nil]); first | done | rfl) ?_
      with_reducible refine (schema_Name.calls kj2 a1 t161 _ A18.out).mono ?_; rintro e w' ⟨rfl, ⟨nd, rfl⟩⟩; refine ⟨_, rfl, ?_⟩; refine hK.out _ _ trivial (fun hHeld => ?_); clear hK K; refine norm_ (a' := ?_) ?_ ?_; rotate_left
      ·show Act.put _ (some 23) _ = _
       simp only [Act.put, List.setIfInBounds_toArray, List.set_cons_zero, List.set_cons_succ, i64_w, i32_w]
       rfl
      refine one_ (i := 3) (N := some 25) (bs 12 15) rfl rfl (one_of HT_.out (by kernel_rfl)) (by decide) (fun K hK => ?_); refine goes_ Try.func35 (by kernel_rfl) rfl #[.string a1] (by rfl) rfl rfl (by (try simp only [List.map_toArray, List.map_cons, List.map_nil]); first | done | rfl) ?_
      with_reducible refine (rowlockref12_Name.calls kj2 a1 t162 _ A19.out).mono ?_; rintro e w' ⟨rfl, ⟨nd, rfl⟩⟩; refine ⟨_, rfl, ?_⟩; refine hK.out _ _ trivial (fun hHeld => ?_); clear hK K; refine norm_ (a' := ?_) ?_ ?_; rotate_left
      ·show Act.put _ (some 25) _ = _
       simp only [Act.put, List.setIfInBounds_toArray, List.set_cons_zero, List.set_cons_succ, i64_w, i32_w]
       rfl
      refine pure_ (i := 4) (N := some 26) (v := ?_) (a' := ?_) (bs 12 31) rfl rfl (any_of HT_.out (by kernel_rfl)) (fun _ _ _ h => h) (Or.inl ⟨by rfl, ?_⟩) ?_ ?_; rotate_left
      ·intro w'
       go_simp
       with_reducible rfl
      rotate_left
      ·simp only [Act.put, List.setIfInBounds_toArray, List.set_cons_zero, List.set_cons_succ, i64_w, i32_w]
       rfl
      refine pure_ (i := 5) (N := some 27) (v := ?_) (a' := ?_) (bs 12 63) rfl rfl (any_of HT_.out (by kernel_rfl)) (fun _ _ _ h => h) (Or.inl ⟨by rfl, ?_⟩) ?_ ?_; rotate_left
      ·intro w'
       go_simp
       with_reducible rfl
      rotate_left
      ·simp only [Act.put, List.setIfInBounds_toArray, List.set_cons_zero, List.set_cons_succ, i64_w, i32_w]
       rfl
      refine pure_ (i := 6) (N := some 28) (v := undef) (a' := ?_) (bs 12 127) rfl rfl (any_of HT_.out (by kernel_rfl)) (fun _ _ _ h => h) (Or.inr ⟨by rfl, rfl⟩) ?_ ?_; rotate_left
      ·simp only [Act.put, List.setIfInBounds_toArray, List.set_cons_zero, List.set_cons_succ, i64_w, i32_w]
       rfl
      refine pure_ (i := 7) (N := some 29) (v := undef) (a' := ?_) (bs 12 255) rfl rfl (any_of HT_.out (by kernel_rfl)) (fun _ _ _ h => h) (Or.inr ⟨by rfl, rfl⟩) ?_ ?_; rotate_left
      ·simp only [Act.put, List.setIfInBounds_toArray, List.set_cons_zero, List.set_cons_succ, i64_w, i32_w]
       rfl
      refine pure_ (i := 8) (N := some 30) (v := undef) (a' := ?_) (bs 12 511) rfl rfl (any_of HT_.out (by kernel_rfl)) (fun _ _ _ h => h) (Or.inr ⟨by rfl, rfl⟩) ?_ ?_; rotate_left
      ·simp only [Act.put, List.setIfInBounds_toArray, List.set_cons_zero, List.set_cons_succ, i64_w, i32_w]
       rfl
      refine pure_ (i := 9) (N := some 31) (v := undef) (a' := ?_) (bs 12 1023) rfl rfl (any_of HT_.out (by kernel_rfl)) (fun _ _ _ h => h) (Or.inr ⟨by rfl, rfl⟩) ?_ ?_; rotate_left
      ·simp only [Act.put, List.setIfInBounds_toArray, List.set_cons_zero, List.set_cons_succ, i64_w, i32_w]
       rfl
      refine pure_ (i := 10) (N := some 32) (v := undef) (a' := ?_) (bs 12 2047) rfl rfl (any_of HT_.out (by kernel_rfl)) (fun _ _ _ h => h) (Or.inr ⟨by rfl, rfl⟩) ?_ ?_; rotate_left
      ·simp only [Act.put, List.setIfInBounds_toArray, List.set_cons_zero, List.set_cons_succ, i64_w, i32_w]
       rfl
      refine pure_ (i := 11) (N := some 33) (v := ?_) (a' := ?_) (bs 12 4095) rfl rfl (any_of HT_.out (by kernel_rfl)) (fun _ _ _ h => h) (Or.inl ⟨by rfl, ?_⟩) ?_ ?_; rotate_left
      ·intro w'
       go_simp
       with_reducible rfl
      rotate_left
      ·simp only [Act.put, List.setIfInBounds_toArray, List.set_cons_zero, List.set_cons_succ, i64_w, i32_w]
       rfl
      refine done_ (done_of HT_.out (by kernel_rfl)) ?_
      try go_wp2
      go_meet
      case rel => exact ⟨_, (true), (by first | rfl | (simp; done) | (simp [*]; done)), H', ⟨by have := HJ2.out; first | omega | exact Nat.le_refl _⟩, ⟨by (with_reducible repeat (first | apply Kd.R_alloc | apply Kd.R_drewN | apply Kd.R_drew)); exact HO159.out⟩, ⟨by (with_reducible repeat (first | refine blk_drewN ?_ _ | refine blk_drew ?_ | refine blk_alloc ?_ _)); exact BK154.out⟩, ⟨by repeat (first | (with_reducible first | exact HB.out | apply below_alloc | apply pw_below_drewN | apply below_drew1 | refine below_set ?_ GE154.out) | exact HB.out)⟩⟩
     ·rw [if_neg c20] at H
      have c20b0 : (t161 != t162) = false := by simpa using c20
      (try (have c20b1 : decide (t161 = t162) = true := by simpa using c20)); (try (have c20b2 : (t161 == t162) = true := by simpa using c20)); clear c20
      (first | rw [c20b0] | (simp only [i64_w, i32_w]; rw [c20b0]) | skip)
      replace H := Option.bind_eq_some_iff.mp H; obtain ⟨t163, A220, H⟩ := H; replace H : ((rowlockref12_May.f kj2 l0_0 l0_1).bind fun t164 => (rowlocklaw12_SchemaPuts.j1 kj2 t157 t160 (t163 != t164) l0_0 l0_1)) = some r := H; have A22 := Aside0.mk A220; clear A220; replace H := Option.bind_eq_some_iff.mp H; obtain ⟨t164, A230, H⟩ := H; replace H : (rowlocklaw12_SchemaPuts.j1 kj2 t157 t160 (t163 != t164) l0_0 l0_1) = some r := H; have A23 := Aside0.mk A230; clear A230; have H' := Aside0.mk H; clear H
      try go_wp2
      have n0_ := Aside0.mk (Kd.R_drew HO159.out); have n1_ := Aside0.mk (blk_drew BK154.out); have n2_ := Aside0.mk (below_drew1 HB.out); clear HO159; clear BK154; clear HB; have HO159 := n0_; have BK154 := n1_; have HB := n2_; clear n0_ n1_ n2_; refine start_ (n := 12) (S := fun w' => w'.cell? ⟨gb154, 0, none⟩ = some (.slice A0_0 l0_0.length c0_0) ∧ w'.cell? ⟨gb154, 1, none⟩ = some (.slice A0_1 l0_1.length c0_1)) (ds := []) #[false, false, false, false, false, false, false, false, false, false, false, false] (by kernel_rfl) rfl rfl ⟨(blk_cell BK154.out 0).trans rfl, (blk_cell BK154.out 1).trans rfl⟩ (fun hHeld => ?_); refine with_tabW rowlocklaw12_SchemaPuts.tab4 rowlocklaw12_SchemaPuts.bits4 (fun HT_ HW_ => ?_); generalize w17.drew = w24 at HO159 BK154 HB hHeld ⊢; refine pure_ (i := 0) (N := some 22) (v := ?_) (a' := ?_) (bs 12 1) rfl rfl (any_of HT_.out (by kernel_rfl)) (fun _ _ _ h => h) (Or.inl ⟨by rfl, ?_⟩) ?_ ?_; rotate_left
      ·intro w'
       go_simp
       with_reducible rfl
      rotate_left
      ·simp only [Act.put, List.setIfInBounds_toArray, List.set_cons_zero, List.set_cons_succ, i64_w, i32_w]
       rfl
      refine pure_ (i := 2) (N := some 24) (v := ?_) (a' := ?_) (bs 12 5) rfl rfl (any_of HT_.out (by kernel_rfl)) (fun _ _ _ h => h) (Or.inl ⟨by rfl, ?_⟩) ?_ ?_; rotate_left
      ·intro w'
       go_simp
       with_reducible rfl
      rotate_left
      ·simp only [Act.put, List.setIfInBounds_toArray, List.set_cons_zero, List.set_cons_succ, i64_w, i32_w]
       rfl
      refine one_ (i := 1) (N := some 23) (bs 12 7) rfl rfl (one_of HT_.out (by kernel_rfl)) (by decide) (fun K hK => ?_); refine goes_ Try.func34 (by kernel_rfl) rfl #[.string a1] (by rfl) rfl rfl (by (try simp only [List.map_toArray, List.map_cons, List.map_nil]); first | done | rfl) ?_
      with_reducible refine (schema_Name.calls kj2 a1 t161 _ A18.out).mono ?_
      rintro e w' ⟨rfl, ⟨nd, rfl⟩⟩
      refine ⟨_, rfl, ?_⟩
      refine hK.out _ _ ⟨(blk_cell BK154.out 0).trans rfl, (blk_cell BK154.out 1).trans rfl⟩ (fun hHeld => ?_)
      clear hK K
      refine norm_ (a' := ?_) ?_ ?_
      rotate_left
      ·show Act.put _ (some 23) _ = _
       simp only [Act.put, List.setIfInBounds_toArray, List.set_cons_zero, List.set_cons_succ, i64_w, i32_w]
       rfl
      refine one_ (i := 3) (N := some 25) (bs 12 15) rfl rfl (one_of HT_.out (by kernel_rfl)) (by decide) (fun K hK => ?_); refine goes_ Try.func35 (by kernel_rfl) rfl #[.string a1] (by rfl) rfl rfl (by (try simp only [List.map_toArray, List.map_cons, List.map_nil]); first | done | rfl) ?_
      with_reducible refine (rowlockref12_Name.calls kj2 a1 t162 _ A19.out).mono ?_
      rintro e w' ⟨rfl, ⟨nd, rfl⟩⟩
      refine ⟨_, rfl, ?_⟩
      refine hK.out _ _ ⟨(blk_cell BK154.out 0).trans rfl, (blk_cell BK154.out 1).trans rfl⟩ (fun hHeld => ?_)
      clear hK K
      refine norm_ (a' := ?_) ?_ ?_
      rotate_left
      ·show Act.put _ (some 25) _ = _
       simp only [Act.put, List.setIfInBounds_toArray, List.set_cons_zero, List.set_cons_succ, i64_w, i32_w]
       rfl
      refine pure_ (i := 4) (N := some 26) (v := ?_) (a' := ?_) (bs 12 31) rfl rfl (any_of HT_.out (by kernel_rfl)) (fun _ _ _ h => h) (Or.inl ⟨by rfl, ?_⟩) ?_ ?_; rotate_left
      ·intro w'
       go_simp
       with_reducible rfl
      rotate_left
      ·simp only [Act.put, List.setIfInBounds_toArray, List.set_cons_zero, List.set_cons_succ, i64_w, i32_w]
       rfl
      refine pure_ (i := 5) (N := some 27) (v := ?_) (a' := ?_) (bs 12 63) rfl rfl (any_of HT_.out (by kernel_rfl)) (fun _ _ _ h => h) (Or.inl ⟨by rfl, ?_⟩) ?_ ?_; rotate_left
      ·intro w'
       go_simp
       with_reducible rfl
      rotate_left
      ·simp only [Act.put, List.setIfInBounds_toArray, List.set_cons_zero, List.set_cons_succ, i64_w, i32_w]
       rfl
      refine take_ (i := 6) (N := some 28) (v := ?_) (a' := ?_) (bs 12 127) rfl rfl (take_ofW HT_.out HW_.out (by kernel_rfl)) (fun _ _ _ h => h) (Or.inl ⟨by rfl, ?_⟩) hHeld ?_ ?_; rotate_left
      ·rintro w' ⟨s0, s1⟩
       go_simp
       with_reducible rfl
      rotate_left
      ·simp only [Act.put, List.setIfInBounds_toArray, List.set_cons_zero, List.set_cons_succ, i64_w, i32_w]
       rfl
      refine take_ (i := 8) (N := some 30) (v := ?_) (a' := ?_) (bs 12 383) rfl rfl (take_ofW HT_.out HW_.out (by kernel_rfl)) (fun _ _ _ h => h) (Or.inl ⟨by rfl, ?_⟩) hHeld ?_ ?_; rotate_left
      ·rintro w' ⟨s0, s1⟩
       go_simp
       with_reducible rfl
      rotate_left
      ·simp only [Act.put, List.setIfInBounds_toArray, List.set_cons_zero, List.set_cons_succ, i64_w, i32_w]
       rfl
      refine one_ (i := 7) (N := some 29) (bs 12 511) rfl rfl (one_of HT_.out (by kernel_rfl)) (by decide) (fun K hK => ?_); refine goes_ Try.func36 (by kernel_rfl) rfl #[.agg #[.slice A0_0 l0_0.length c0_0, .slice A0_1 l0_1.length c0_1]] (by rfl) rfl rfl (by (try simp only [List.map_toArray, List.map_cons, List.map_nil]); first | done | rfl) ?_
      with_reducible refine (schema_May.calls kj2 _ _ l0_0 _ _ l0_1 t163 _ ?side1 ?side2 ?side3 ?side4 A22.out).mono ?_
      (case side1 => repeat (first | exact (Kd.C_below HR0_0.out (by repeat (first | (with_reducible first | exact HB.out | apply below_alloc | apply pw_below_drewN | apply below_drew1 | refine below_set ?_ GE154.out) | exact HB.out))) | (with_reducible refine Kd.C_alloc ?_ _) | (with_reducible refine Kd.C_drewN ?_ _) | (with_reducible refine Kd.C_drew ?_)))
      (case side2 => exact HC0_0.out)
      (case side3 => repeat (first | exact (Kd.C_below HR0_1.out (by repeat (first | (with_reducible first | exact HB.out | apply below_alloc | apply pw_below_drewN | apply below_drew1 | refine below_set ?_ GE154.out) | exact HB.out))) | (with_reducible refine Kd.C_alloc ?_ _) | (with_reducible refine Kd.C_drewN ?_ _) | (with_reducible refine Kd.C_drew ?_)))
      (case side4 => exact HC0_1.out)
      rintro e w25 ⟨rfl, hb⟩
      refine ⟨_, rfl, ?_⟩
      have n0_ := Aside0.mk (Kd.R_below (by (with_reducible repeat (first | apply Kd.R_alloc | apply Kd.R_drewN | apply Kd.R_drew)); exact HO159.out) hb); have n1_ := Aside0.mk (blk_below (g := gb154) (o := .cells #[.slice A0_0 l0_0.length c0_0, .slice A0_1 l0_1.length c0_1] 80 (0, 0)) (by (with_reducible repeat (first | refine blk_drewN ?_ _ | refine blk_drew ?_ | refine blk_alloc ?_ _)); exact BK154.out) hb); have n2_ := Aside0.mk (below_step (by repeat (first | (with_reducible first | exact HB.out | apply below_alloc | apply pw_below_drewN | apply below_drew1 | refine below_set ?_ GE154.out) | exact HB.out)) hb)
      clear HO159
      clear BK154
      clear HB
      have HO159 := n0_
      have BK154 := n1_
      have HB := n2_
      clear n0_ n1_ n2_
      (try clear hb)
      (try clear hb2)
      (try clear hk)
      (try clear hi)
      refine hK.out _ _ ⟨(blk_cell BK154.out 0).trans rfl, (blk_cell BK154.out 1).trans rfl⟩ (fun hHeld => ?_)
      clear hK K
      refine norm_ (a' := ?_) ?_ ?_
      rotate_left
      ·show Act.put _ (some 29) _ = _
       simp only [Act.put, List.setIfInBounds_toArray, List.set_cons_zero, List.set_cons_succ, i64_w, i32_w]
       rfl
      refine one_ (i := 9) (N := some 31) (bs 12 1023) rfl rfl (one_of HT_.out (by kernel_rfl)) (by decide) (fun K hK => ?_); refine goes_ Try.func30 (by kernel_rfl) rfl #[.agg #[.slice A0_0 l0_0.length c0_0, .slice A0_1 l0_1.length c0_1]] (by rfl) rfl rfl (by (try simp only [List.map_toArray, List.map_cons, List.map_nil]); first | done | rfl) ?_
      with_reducible refine (rowlockref12_May.calls kj2 _ _ l0_0 _ _ l0_1 t164 _ ?side1 ?side2 ?side3 ?side4 A23.out).mono ?_; (case side1 => repeat (first | exact (Kd.C_below HR0_0.out HB.out) | (with_reducible refine Kd.C_alloc ?_ _) | (with_reducible refine Kd.C_drewN ?_ _) | (with_reducible refine Kd.C_drew ?_))); (case side2 => exact HC0_0.out); (case side3 => repeat (first | exact (Kd.C_below HR0_1.out HB.out) | (with_reducible refine Kd.C_alloc ?_ _) | (with_reducible refine Kd.C_drewN ?_ _) | (with_reducible refine Kd.C_drew ?_))); (case side4 => exact HC0_1.out); rintro e w26 ⟨rfl, hb⟩; refine ⟨_, rfl, ?_⟩; have n0_ := Aside0.mk (Kd.R_below HO159.out hb); have n1_ := Aside0.mk (blk_below (g := gb154) (o := .cells #[.slice A0_0 l0_0.length c0_0, .slice A0_1 l0_1.length c0_1] 80 (0, 0)) BK154.out hb); have n2_ := Aside0.mk (below_step HB.out hb); clear HO159; clear BK154; clear HB; have HO159 := n0_; have BK154 := n1_; have HB := n2_; clear n0_ n1_ n2_; (try clear hb); (try clear hb2); (try clear hk); (try clear hi); refine hK.out _ _ ⟨(blk_cell BK154.out 0).trans rfl, (blk_cell BK154.out 1).trans rfl⟩ (fun hHeld => ?_); clear hK K; refine norm_ (a' := ?_) ?_ ?_; rotate_left
      ·show Act.put _ (some 31) _ = _
       simp only [Act.put, List.setIfInBounds_toArray, List.set_cons_zero, List.set_cons_succ, i64_w, i32_w]
       rfl
      refine pure_ (i := 10) (N := some 32) (v := ?_) (a' := ?_) (bs 12 2047) rfl rfl (any_of HT_.out (by kernel_rfl)) (fun _ _ _ h => h) (Or.inl ⟨by rfl, ?_⟩) ?_ ?_; rotate_left
      ·intro w'
       go_simp
       with_reducible rfl
      rotate_left
      ·simp only [Act.put, List.setIfInBounds_toArray, List.set_cons_zero, List.set_cons_succ, i64_w, i32_w]
       rfl
      refine pure_ (i := 11) (N := some 33) (v := ?_) (a' := ?_) (bs 12 4095) rfl rfl (any_of HT_.out (by kernel_rfl)) (fun _ _ _ h => h) (Or.inl ⟨by rfl, ?_⟩) ?_ ?_; rotate_left
      ·intro w'
       go_simp
       with_reducible rfl
      rotate_left
      ·simp only [Act.put, List.setIfInBounds_toArray, List.set_cons_zero, List.set_cons_succ, i64_w, i32_w]
       rfl
      refine done_ (done_of HT_.out (by kernel_rfl)) ?_
      try go_wp2
      go_meet
      case rel => exact ⟨_, ((t163 != t164)), (by first | rfl | (simp; done) | (simp [*]; done)), H', ⟨by have := HJ2.out; first | omega | exact Nat.le_refl _⟩, ⟨by (with_reducible repeat (first | apply Kd.R_alloc | apply Kd.R_drewN | apply Kd.R_drew)); exact HO159.out⟩, ⟨by (with_reducible repeat (first | refine blk_drewN ?_ _ | refine blk_drew ?_ | refine blk_alloc ?_ _)); exact BK154.out⟩, ⟨by repeat (first | (with_reducible first | exact HB.out | apply below_alloc | apply pw_below_drewN | apply below_drew1 | refine below_set ?_ GE154.out) | exact HB.out)⟩⟩
    case rest =>
     clear HC15; (try clear c1); (try clear c2); (try clear p2); (try clear c3); (try clear c6); (try clear c8); (try clear c11); (try clear c20); (try clear c20b0); (try clear c20b1); (try clear c20b2); (try clear c26); (try clear hcz16_0); (try clear hcz16_1); (try clear hcz7_0); (try clear hcz7_1); (try clear hcz9_0); (try clear hcz9_1); (try clear hfz16_0); (try clear hfz16_1); (try clear hfz7_0); (try clear hfz7_1); (try clear hfz9_0); (try clear hfz9_1); (try clear p2); obtain ⟨kq, x33_14, rfl, HA, HJ14, HO_5, BK154, HB⟩ := hcut
     cases kq with
     | zero => exact absurd HA.out (by simp [rowlocklaw12_SchemaPuts.j1])
     | succ kj14 =>
      have H := HA.out; clear HA; simp only [rowlocklaw12_SchemaPuts.j1] at H
      by_cases c27 : x33_14 = true
      ·subst c27
       have H1 : (some false) = some r := by rw [if_pos rfl] at H; exact H
       clear H; have H := H1; clear H1; obtain rfl := Option.some.inj H
       go_wp2
       go_ret
       exact ⟨by first | rfl | (simp [errW_none, errW_some] <;> rfl) | (simp [*, errW_none, errW_some] <;> rfl), by repeat (first | (with_reducible first | exact HB.out | apply below_alloc | apply pw_below_drewN | apply below_drew1 | refine below_set ?_ GE154.out) | exact HB.out)⟩
      ·replace c27 := Bool.eq_false_iff.mpr c27
       subst c27; have H1 : ((rowlockref12_May.f kj14 l0_0 l0_1).bind fun t165 => (if t165 = true then ((schema_Get.f kj14 t157).bind fun bt167 => ((rowlocklaw12_fixed.f).bind fun t175 => (if t175 = true then (if t160 = 0 then ((rowlockref12_Put.f kj14 l0_0 l0_1).bind fun t176 => (if (strOfNums t157).toList = t176.toList then (if bt167.2.2 = 0 then ((schema_Same.f kj14 bt167.1 bt167.2.1 l0_0 l0_1).bind fun t177 => (some t177)) else (some false)) else (some false))) else (some false)) else (some false)))) else ((rowlocklaw12_fixed.f).bind fun t166 => (if t166 = true then (if t160 = 1 then (some ((t157.length : Int) == 0)) else (some false)) else (some false))))) = some r := by rw [if_neg (show ¬ (false = true) by decide)] at H; exact H
       clear H; have H := H1; clear H1; replace H := Option.bind_eq_some_iff.mp H; obtain ⟨t165, A280, H⟩ := H; replace H : (if t165 = true then ((schema_Get.f kj14 t157).bind fun bt167 => ((rowlocklaw12_fixed.f).bind fun t175 => (if t175 = true then (if t160 = 0 then ((rowlockref12_Put.f kj14 l0_0 l0_1).bind fun t176 => (if (strOfNums t157).toList = t176.toList then (if bt167.2.2 = 0 then ((schema_Same.f kj14 bt167.1 bt167.2.1 l0_0 l0_1).bind fun t177 => (some t177)) else (some false)) else (some false))) else (some false)) else (some false)))) else ((rowlocklaw12_fixed.f).bind fun t166 => (if t166 = true then (if t160 = 1 then (some ((t157.length : Int) == 0)) else (some false)) else (some false)))) = some r := H; have A28 := Aside0.mk A280; clear A280
       by_cases c29 : t165 = true
       ·subst c29
        have H1 : ((schema_Get.f kj14 t157).bind fun bt167 => ((rowlocklaw12_fixed.f).bind fun t175 => (if t175 = true then (if t160 = 0 then ((rowlockref12_Put.f kj14 l0_0 l0_1).bind fun t176 => (if (strOfNums t157).toList = t176.toList then (if bt167.2.2 = 0 then ((schema_Same.f kj14 bt167.1 bt167.2.1 l0_0 l0_1).bind fun t177 => (some t177)) else (some false)) else (some false))) else (some false)) else (some false)))) = some r := by rw [if_pos rfl] at H; exact H
        clear H; have H := H1; clear H1; replace H := Option.bind_eq_some_iff.mp H; obtain ⟨⟨t167, t170, t173⟩, A300, H⟩ := H; replace H : ((rowlocklaw12_fixed.f).bind fun t175 => (if t175 = true then (if t160 = 0 then ((rowlockref12_Put.f kj14 l0_0 l0_1).bind fun t176 => (if (strOfNums t157).toList = t176.toList then (if t173 = 0 then ((schema_Same.f kj14 t167 t170 l0_0 l0_1).bind fun t177 => (some t177)) else (some false)) else (some false))) else (some false)) else (some false))) = some r := H; have A30 := Aside0.mk A300; clear A300; replace H := Option.bind_eq_some_iff.mp H; obtain ⟨t175, A310, H⟩ := H; replace H : (if t175 = true then (if t160 = 0 then ((rowlockref12_Put.f kj14 l0_0 l0_1).bind fun t176 => (if (strOfNums t157).toList = t176.toList then (if t173 = 0 then ((schema_Same.f kj14 t167 t170 l0_0 l0_1).bind fun t177 => (some t177)) else (some false)) else (some false))) else (some false)) else (some false)) = some r := H; have A31 := Aside0.mk A310; clear A310
        by_cases c32 : t175 = true
        ·subst c32
         have H1 : (if t160 = 0 then ((rowlockref12_Put.f kj14 l0_0 l0_1).bind fun t176 => (if (strOfNums t157).toList = t176.toList then (if t173 = 0 then ((schema_Same.f kj14 t167 t170 l0_0 l0_1).bind fun t177 => (some t177)) else (some false)) else (some false))) else (some false)) = some r := by rw [if_pos rfl] at H; exact H
         clear H; have H := H1; clear H1
         by_cases c33 : t160 = 0
         ·rw [if_pos c33] at H
          have c33b0 : (t160 == 0) = true := beq_iff_eq.mpr c33; have c33b1 : (t160 != 0) = false := bne_eq_false_iff_eq.mpr c33; clear c33; replace H := Option.bind_eq_some_iff.mp H; obtain ⟨t176, A340, H⟩ := H; replace H : (if (strOfNums t157).toList = t176.toList then (if t173 = 0 then ((schema_Same.f kj14 t167 t170 l0_0 l0_1).bind fun t177 => (some t177)) else (some false)) else (some false)) = some r := H; have A34 := Aside0.mk A340; clear A340
          by_cases c35 : (strOfNums t157).toList = t176.toList
          ·rw [if_pos c35] at H
           have c35b0 : ((strOfNums t157).toList == t176.toList) = true := beq_iff_eq.mpr c35; have c35b1 : ((strOfNums t157).toList != t176.toList) = false := bne_eq_false_iff_eq.mpr c35; clear c35
           by_cases c36 : t173 = 0
           ·rw [if_pos c36] at H
            have c36b0 : (t173 == 0) = true := beq_iff_eq.mpr c36; have c36b1 : (t173 != 0) = false := bne_eq_false_iff_eq.mpr c36; clear c36; replace H := Option.bind_eq_some_iff.mp H; obtain ⟨t177, A370, H⟩ := H; replace H : (some t177) = some r := H; have A37 := Aside0.mk A370; clear A370; obtain rfl := Option.some.inj H; have hcz38_0 := (blk_cell BK154.out 0).trans rfl; have hcz38_1 := (blk_cell BK154.out 1).trans rfl; have hfz38_0 := blk_frozen BK154.out 0; have hfz38_1 := blk_frozen BK154.out 1
            try go_wp2_with (first | ((with_reducible refine gate_callee (f := 30) rfl ?_); refine goesL_ (some 35) rfl rfl Try.func30 (by kernel_rfl) rfl #[.agg #[.slice A0_0 l0_0.length c0_0, .slice A0_1 l0_1.length c0_1]] rfl (by (try simp only [List.map_toArray, List.map_cons, List.map_nil]); first | done | rfl) ?_; (with_reducible refine (rowlockref12_May.calls kj14 _ _ l0_0 _ _ l0_1 true _ ?side1 ?side2 ?side3 ?side4 A28.out).mono ?_); (case side1 => repeat (first | exact (Kd.C_below HR0_0.out HB.out) | (with_reducible refine Kd.C_alloc ?_ _) | (with_reducible refine Kd.C_drewN ?_ _) | (with_reducible refine Kd.C_drew ?_))); (case side2 => exact HC0_0.out); (case side3 => repeat (first | exact (Kd.C_below HR0_1.out HB.out) | (with_reducible refine Kd.C_alloc ?_ _) | (with_reducible refine Kd.C_drewN ?_ _) | (with_reducible refine Kd.C_drew ?_))); (case side4 => exact HC0_1.out); rintro e w39 ⟨rfl, hb⟩; refine ⟨_, rfl, ?_⟩; have n0_ := Aside0.mk (Kd.R_below HO_5.out hb); have n1_ := Aside0.mk (blk_below (g := gb154) (o := .cells #[.slice A0_0 l0_0.length c0_0, .slice A0_1 l0_1.length c0_1] 80 (0, 0)) BK154.out hb); have n2_ := Aside0.mk (below_step HB.out hb); clear HO_5; clear BK154; clear HB; have HO_5 := n0_; have BK154 := n1_; have HB := n2_; clear n0_ n1_ n2_; (try clear hb); (try clear hb2); (try clear hk); (try clear hi); obtain ⟨Ao40, co40, eo40⟩ := Kd.R_slice HO_5.out; subst eo40) | ((with_reducible refine gate_callee (f := 37) rfl ?_); refine goesL_ (some 49) rfl rfl Try.func37 (by kernel_rfl) rfl #[.slice Ao40 t157.length co40] rfl (by (try simp only [List.map_toArray, List.map_cons, List.map_nil]); first | done | rfl) ?_; (with_reducible refine (schema_Get.calls kj14 _ _ t157 t167 t170 t173 _ ?side1 ?side2 A30.out).mono ?_); (case side1 => repeat (first | exact (Kd.R_reads' HO_5.out).2.2 | (with_reducible refine Kd.C_alloc ?_ _) | (with_reducible refine Kd.C_drewN ?_ _) | (with_reducible refine Kd.C_drew ?_))); (case side2 => exact (Kd.R_reads' HO_5.out).2.1); rintro e w41 ⟨v168, v171, rfl, ho0, ho1, hb⟩; refine ⟨_, rfl, ?_⟩; have n0_ := Aside0.mk (Kd.R_below HO_5.out hb); have n1_ := Aside0.mk (Kd.R_lower ho0 (below_size HB.out)); have n2_ := Aside0.mk (Kd.R_lower ho1 (below_size HB.out)); have n3_ := Aside0.mk (blk_below (g := gb154) (o := .cells #[.slice A0_0 l0_0.length c0_0, .slice A0_1 l0_1.length c0_1] 80 (0, 0)) BK154.out hb); have n4_ := Aside0.mk (below_step HB.out hb); clear HO_5; clear BK154; clear HB; have HO_5 := n0_; have HO169 := n1_; have HO172 := n2_; have BK154 := n3_; have HB := n4_; clear n0_ n1_ n2_ n3_ n4_; (try clear hb); (try clear hb2); (try clear hk); (try clear hi); (try clear ho0); (try clear ho1)) | ((with_reducible refine gate_dst (N := 7) rfl ?_); (try (refine gate_guard (by rfl) ?_; dsimp only)); refine box_event ?hg (N := 7) ?hd (cs := #[.slice none 0 0, .slice none 0 0]) (t := 80) ?hr ?_; (case hd => rfl); (case hg => rfl); (case hr => first | (go_simp; done) | (go_simp; rfl)); intro gb174 hg w42 hbox hb; have n0_ := Aside0.mk (Kd.R_below HO_5.out hb); have n1_ := Aside0.mk (Kd.R_below HO169.out hb); have n2_ := Aside0.mk (Kd.R_below HO172.out hb); have n3_ := Aside0.mk (blk_below (g := gb154) (o := .cells #[.slice A0_0 l0_0.length c0_0, .slice A0_1 l0_1.length c0_1] 80 (0, 0)) BK154.out hb); have n4_ := Aside0.mk (below_step HB.out hb); have n5_ := Aside0.mk (hbox); have n6_ := Aside0.mk ((by rw [hg]; exact (below_size HB.out) : w.heap.size ≤ gb174)); have n7_ := Aside0.mk ((by rw [hg]; exact (below_size HB.out) : w.heap.size ≤ gb174)); have n8_ := Aside0.mk ((by rw [hg]; exact Nat.ne_of_lt (blk_lt (g := gb154) (o := .cells #[.slice A0_0 l0_0.length c0_0, .slice A0_1 l0_1.length c0_1] 80 (0, 0)) BK154.out) : gb154 ≠ gb174)); have n9_ := Aside0.mk ((by rw [hg]; exact Nat.ne_of_gt (blk_lt (g := gb154) (o := .cells #[.slice A0_0 l0_0.length c0_0, .slice A0_1 l0_1.length c0_1] 80 (0, 0)) BK154.out) : gb174 ≠ gb154)); clear HO_5; clear HO169; clear HO172; clear BK154; clear HB; have HO_5 := n0_; have HO169 := n1_; have HO172 := n2_; have BK154 := n3_; have HB := n4_; have BK174 := n5_; have GW174 := n6_; have GE174 := n7_; have NB154_174 := n8_; have NB174_154 := n9_; clear n0_ n1_ n2_ n3_ n4_ n5_ n6_ n7_ n8_ n9_; clear hb hbox hg; obtain ⟨Ao43, co43, eo43⟩ := Kd.R_slice HO169.out; subst eo43; have hnb44 := NB174_154.out; have hnc44 := NB154_174.out; have hcz45_0 := (blk_cell BK174.out 0).trans rfl; have hcz45_1 := (blk_cell BK174.out 1).trans rfl; have hfz45_0 := blk_frozen BK174.out 0; have hfz45_1 := blk_frozen BK174.out 1; obtain ⟨Ao46, co46, eo46⟩ := Kd.R_slice HO172.out; subst eo46))
            have n0_ : Aside0 (Kd.R (Kd.int .u8) 5 ((w42.setCell ⟨gb174, 0, none⟩ (.slice Ao43 t167.length co43)).setCell ⟨gb174, 1, none⟩ (.slice Ao46 t170.length co46)) w.heap.size (fun _ => True) (.slice Ao40 t157.length co40) t157) := ⟨by (with_reducible repeat (first | apply Kd.R_alloc | apply Kd.R_drewN | apply Kd.R_drew)); exact Kd.R_mono (Kd.R_far (p := ⟨gb174, 1, none⟩) (Kd.R_far (p := ⟨gb174, 0, none⟩) (Kd.R_types HO_5.out BK174.out (by decide)) (fun _ hk => hk.2) (.slice Ao43 t167.length co43)) (fun _ hk => hk.2) (.slice Ao46 t170.length co46)) (fun _ hk => trivial)⟩; have n1_ : Aside0 (Kd.R k84 84 ((w42.setCell ⟨gb174, 0, none⟩ (.slice Ao43 t167.length co43)).setCell ⟨gb174, 1, none⟩ (.slice Ao46 t170.length co46)) w.heap.size (fun _ => True) (.slice Ao43 t167.length co43) t167) := ⟨by (with_reducible repeat (first | apply Kd.R_alloc | apply Kd.R_drewN | apply Kd.R_drew)); exact Kd.R_mono (Kd.R_far (p := ⟨gb174, 1, none⟩) (Kd.R_far (p := ⟨gb174, 0, none⟩) (Kd.R_types HO169.out BK174.out (by decide)) (fun _ hk => hk.2) (.slice Ao43 t167.length co43)) (fun _ hk => hk.2) (.slice Ao46 t170.length co46)) (fun _ hk => trivial)⟩; have n2_ : Aside0 (Kd.R k135 135 ((w42.setCell ⟨gb174, 0, none⟩ (.slice Ao43 t167.length co43)).setCell ⟨gb174, 1, none⟩ (.slice Ao46 t170.length co46)) w.heap.size (fun _ => True) (.slice Ao46 t170.length co46) t170) := ⟨by (with_reducible repeat (first | apply Kd.R_alloc | apply Kd.R_drewN | apply Kd.R_drew)); exact Kd.R_mono (Kd.R_far (p := ⟨gb174, 1, none⟩) (Kd.R_far (p := ⟨gb174, 0, none⟩) (Kd.R_types HO172.out BK174.out (by decide)) (fun _ hk => hk.2) (.slice Ao43 t167.length co43)) (fun _ hk => hk.2) (.slice Ao46 t170.length co46)) (fun _ hk => trivial)⟩; have n3_ : Aside0 (((w42.setCell ⟨gb174, 0, none⟩ (.slice Ao43 t167.length co43)).setCell ⟨gb174, 1, none⟩ (.slice Ao46 t170.length co46)).heap[gb154]? = some (.cells #[.slice A0_0 l0_0.length c0_0, .slice A0_1 l0_1.length c0_1] 80 (0, 0))) := ⟨by (with_reducible repeat (first | refine blk_drewN ?_ _ | refine blk_drew ?_ | refine blk_alloc ?_ _)); refine blk_far ?_ NB154_174.out _; (with_reducible repeat (first | refine blk_drewN ?_ _ | refine blk_drew ?_ | refine blk_alloc ?_ _)); refine blk_far ?_ NB154_174.out _; (with_reducible repeat (first | refine blk_drewN ?_ _ | refine blk_drew ?_ | refine blk_alloc ?_ _)); exact BK154.out⟩; have n4_ : Aside0 (((w42.setCell ⟨gb174, 0, none⟩ (.slice Ao43 t167.length co43)).setCell ⟨gb174, 1, none⟩ (.slice Ao46 t170.length co46)).heap[gb174]? = some (.cells #[.slice Ao43 t167.length co43, .slice Ao46 t170.length co46] 80 (0, 0))) := ⟨by (with_reducible repeat (first | refine blk_drewN ?_ _ | refine blk_drew ?_ | refine blk_alloc ?_ _)); refine blk_put (cs := #[.slice Ao43 t167.length co43, .slice none 0 0]) ?_ 1 _ rfl; (with_reducible repeat (first | refine blk_drewN ?_ _ | refine blk_drew ?_ | refine blk_alloc ?_ _)); refine blk_put (cs := #[.slice none 0 0, .slice none 0 0]) ?_ 0 _ rfl; (with_reducible repeat (first | refine blk_drewN ?_ _ | refine blk_drew ?_ | refine blk_alloc ?_ _)); exact BK174.out⟩; have n5_ : Aside0 (Below w.heap.size w ((w42.setCell ⟨gb174, 0, none⟩ (.slice Ao43 t167.length co43)).setCell ⟨gb174, 1, none⟩ (.slice Ao46 t170.length co46))) := ⟨by repeat (first | (with_reducible first | exact HB.out | apply below_alloc | apply pw_below_drewN | apply below_drew1 | refine below_set ?_ GE154.out | refine below_set ?_ GE174.out) | exact HB.out)⟩; (try clear HO_5); (try clear HO169); (try clear HO172); (try clear BK154); (try clear BK174); (try clear HB); generalize ((w42.setCell ⟨gb174, 0, none⟩ (.slice Ao43 t167.length co43)).setCell ⟨gb174, 1, none⟩ (.slice Ao46 t170.length co46)) = w47 at n0_ n1_ n2_ n3_ n4_ n5_ ⊢; have HO_5 := n0_; have HO169 := n1_; have HO172 := n2_; have BK154 := n3_; have BK174 := n4_; have HB := n5_; clear n0_ n1_ n2_ n3_ n4_ n5_; have n0_ := Aside0.mk (Kd.R_drew HO_5.out); have n1_ := Aside0.mk (Kd.R_drew HO169.out); have n2_ := Aside0.mk (Kd.R_drew HO172.out); have n3_ := Aside0.mk (blk_drew BK154.out); have n4_ := Aside0.mk (blk_drew BK174.out); have n5_ := Aside0.mk (below_drew1 HB.out); clear HO_5; clear HO169; clear HO172; clear BK154; clear BK174; clear HB; have HO_5 := n0_; have HO169 := n1_; have HO172 := n2_; have BK154 := n3_; have BK174 := n4_; have HB := n5_; clear n0_ n1_ n2_ n3_ n4_ n5_; refine start_ (n := 22) (S := fun w' => w'.cell? ⟨gb154, 0, none⟩ = some (.slice A0_0 l0_0.length c0_0) ∧ w'.cell? ⟨gb154, 1, none⟩ = some (.slice A0_1 l0_1.length c0_1) ∧ w'.cell? ⟨gb174, 0, none⟩ = some (.slice Ao43 t167.length co43) ∧ w'.cell? ⟨gb174, 1, none⟩ = some (.slice Ao46 t170.length co46) ∧ (convert 52 9 (.slice Ao40 t157.length co40)).run Try.prog w' = .ok (.string (strOfNums t157)) w') (ds := []) #[false, false, false, false, false, false, false, false, false, false, false, false, false, false, false, false, false, false, false, false, false, false] (by kernel_rfl) rfl rfl ⟨(blk_cell BK154.out 0).trans rfl, (blk_cell BK154.out 1).trans rfl, (blk_cell BK174.out 0).trans rfl, (blk_cell BK174.out 1).trans rfl, (own_string (P := Try.prog) Try.underlying52 Try.underlying5 Try.underlying9 (Kd.own_of_R (Kd.R_drew HO_5.out)))⟩ (fun hHeld => ?_); refine with_tabW rowlocklaw12_SchemaPuts.tab9 rowlocklaw12_SchemaPuts.bits9 (fun HT_ HW_ => ?_); generalize w47.drew = w48 at HO_5 HO169 HO172 BK154 BK174 HB hHeld ⊢; refine one_ (i := 0) (N := some 52) (bs 22 1) rfl rfl (one_of HT_.out (by kernel_rfl)) (by decide) (fun K hK => ?_); refine goes_ Try.func27 (by kernel_rfl) rfl #[] (by rfl) rfl rfl (by (try simp only [List.map_toArray, List.map_cons, List.map_nil]); first | done | rfl) ?_
            with_reducible refine (rowlocklaw12_fixed.calls  true _ A31.out).mono ?_
            rintro e w49 ⟨rfl, hb⟩
            refine ⟨_, rfl, ?_⟩
            have n0_ := Aside0.mk (Kd.R_below (by (with_reducible repeat (first | apply Kd.R_alloc | apply Kd.R_drewN | apply Kd.R_drew)); exact HO_5.out) hb); have n1_ := Aside0.mk (Kd.R_below (by (with_reducible repeat (first | apply Kd.R_alloc | apply Kd.R_drewN | apply Kd.R_drew)); exact HO169.out) hb); have n2_ := Aside0.mk (Kd.R_below (by (with_reducible repeat (first | apply Kd.R_alloc | apply Kd.R_drewN | apply Kd.R_drew)); exact HO172.out) hb); have n3_ := Aside0.mk (blk_below (g := gb154) (o := .cells #[.slice A0_0 l0_0.length c0_0, .slice A0_1 l0_1.length c0_1] 80 (0, 0)) (by (with_reducible repeat (first | refine blk_drewN ?_ _ | refine blk_drew ?_ | refine blk_alloc ?_ _)); exact BK154.out) hb); have n4_ := Aside0.mk (blk_below (g := gb174) (o := .cells #[.slice Ao43 t167.length co43, .slice Ao46 t170.length co46] 80 (0, 0)) (by (with_reducible repeat (first | refine blk_drewN ?_ _ | refine blk_drew ?_ | refine blk_alloc ?_ _)); exact BK174.out) hb); have n5_ := Aside0.mk (below_step (by repeat (first | (with_reducible first | exact HB.out | apply below_alloc | apply pw_below_drewN | apply below_drew1 | refine below_set ?_ GE154.out | refine below_set ?_ GE174.out) | exact HB.out)) hb)
            clear HO_5
            clear HO169
            clear HO172
            clear BK154
            clear BK174
            clear HB
            have HO_5 := n0_
            have HO169 := n1_
            have HO172 := n2_
            have BK154 := n3_
            have BK174 := n4_
            have HB := n5_
            clear n0_ n1_ n2_ n3_ n4_ n5_
            (try clear hb)
            (try clear hb2)
            (try clear hk)
            (try clear hi)
            have hcv50 := own_string (P := Try.prog) Try.underlying52 Try.underlying5 Try.underlying9 (Kd.own_of_R HO_5.out)
            refine hK.out _ _ ⟨(blk_cell BK154.out 0).trans rfl, (blk_cell BK154.out 1).trans rfl, (blk_cell BK174.out 0).trans rfl, (blk_cell BK174.out 1).trans rfl, (own_string (P := Try.prog) Try.underlying52 Try.underlying5 Try.underlying9 (Kd.own_of_R HO_5.out))⟩ (fun hHeld => ?_)
            clear hK K
            refine norm_ (a' := ?_) ?_ ?_
            rotate_left
            ·show Act.put _ (some 52) _ = _
             simp only [Act.put, List.setIfInBounds_toArray, List.set_cons_zero, List.set_cons_succ, i64_w, i32_w]
             rfl
            refine pure_ (i := 1) (N := some 53) (v := ?_) (a' := ?_) (bs 22 3) rfl rfl (any_of HT_.out (by kernel_rfl)) (fun _ _ _ h => h) (Or.inl ⟨by rfl, ?_⟩) ?_ ?_; rotate_left
            ·intro w'
             go_simp
             with_reducible rfl
            rotate_left
            ·simp only [Act.put, List.setIfInBounds_toArray, List.set_cons_zero, List.set_cons_succ, i64_w, i32_w]
             rfl
            refine pure_ (i := 2) (N := some 54) (v := ?_) (a' := ?_) (bs 22 7) rfl rfl (any_of HT_.out (by kernel_rfl)) (fun _ _ _ h => h) (Or.inl ⟨by rfl, ?_⟩) ?_ ?_; rotate_left
            ·intro w'
             go_simp
             with_reducible rfl
            rotate_left
            ·simp only [Act.put, List.setIfInBounds_toArray, List.set_cons_zero, List.set_cons_succ, i64_w, i32_w]
             rfl
            refine pure_ (i := 3) (N := some 55) (v := ?_) (a' := ?_) (bs 22 15) rfl rfl (any_of HT_.out (by kernel_rfl)) (fun _ _ _ h => h) (Or.inl ⟨by rfl, ?_⟩) ?_ ?_; rotate_left
            ·intro w'
             go_simp
             with_reducible rfl
            rotate_left
            ·simp only [Act.put, List.setIfInBounds_toArray, List.set_cons_zero, List.set_cons_succ, i64_w, i32_w]
             rfl
            refine pure_ (i := 4) (N := some 56) (v := ?_) (a' := ?_) (bs 22 31) rfl rfl (any_of HT_.out (by kernel_rfl)) (fun _ _ _ h => h) (Or.inl ⟨by rfl, ?_⟩) ?_ ?_; rotate_left
            ·intro w'
             go_simp
             with_reducible rfl
            rotate_left
            ·simp only [Act.put, List.setIfInBounds_toArray, List.set_cons_zero, List.set_cons_succ, i64_w, i32_w]
             rfl
            refine pure_ (i := 5) (N := some 57) (v := ?_) (a' := ?_) (bs 22 63) rfl rfl (any_of HT_.out (by kernel_rfl)) (fun _ _ _ h => h) (Or.inl ⟨by rfl, ?_⟩) ?_ ?_; rotate_left
            ·intro w'
             go_simp
             with_reducible rfl
            rotate_left
            ·simp only [Act.put, List.setIfInBounds_toArray, List.set_cons_zero, List.set_cons_succ, i64_w, i32_w]
             rfl
            refine pure_ (i := 6) (N := some 58) (v := ?_) (a' := ?_) (bs 22 127) rfl rfl (any_of HT_.out (by kernel_rfl)) (fun _ _ _ h => h) (Or.inl ⟨by rfl, ?_⟩) ?_ ?_; rotate_left
            ·intro w'
             go_simp
             with_reducible rfl
            rotate_left
            ·simp only [Act.put, List.setIfInBounds_toArray, List.set_cons_zero, List.set_cons_succ, i64_w, i32_w]
             rfl
            refine take_ (i := 7) (N := some 59) (v := ?_) (a' := ?_) (bs 22 255) rfl rfl (take_ofW HT_.out HW_.out (by kernel_rfl)) (fun _ _ _ h => h) (Or.inl ⟨by rfl, ?_⟩) hHeld ?_ ?_; rotate_left
            ·rintro w' ⟨_, _, _, _, s99⟩
             go_simp
             with_reducible rfl
            rotate_left
            ·simp only [Act.put, List.setIfInBounds_toArray, List.set_cons_zero, List.set_cons_succ, i64_w, i32_w]
             rfl
            refine take_ (i := 8) (N := some 60) (v := ?_) (a' := ?_) (bs 22 511) rfl rfl (take_ofW HT_.out HW_.out (by kernel_rfl)) (fun _ _ _ h => h) (Or.inl ⟨by rfl, ?_⟩) hHeld ?_ ?_; rotate_left
            ·rintro w' ⟨s0, s1, s2, s3, s99⟩
             go_simp
             with_reducible rfl
            rotate_left
            ·simp only [Act.put, List.setIfInBounds_toArray, List.set_cons_zero, List.set_cons_succ, i64_w, i32_w]
             rfl
            refine one_ (i := 9) (N := some 61) (bs 22 1023) rfl rfl (one_of HT_.out (by kernel_rfl)) (by decide) (fun K hK => ?_); refine goes_ Try.func32 (by kernel_rfl) rfl #[.agg #[.slice A0_0 l0_0.length c0_0, .slice A0_1 l0_1.length c0_1]] (by rfl) rfl rfl (by (try simp only [List.map_toArray, List.map_cons, List.map_nil]); first | done | rfl) ?_
            with_reducible refine (rowlockref12_Put.calls kj14 _ _ l0_0 _ _ l0_1 t176 _ ?side1 ?side2 ?side3 ?side4 A34.out).mono ?_
            (case side1 => repeat (first | exact (Kd.C_below HR0_0.out HB.out) | (with_reducible refine Kd.C_alloc ?_ _) | (with_reducible refine Kd.C_drewN ?_ _) | (with_reducible refine Kd.C_drew ?_)))
            (case side2 => exact HC0_0.out)
            (case side3 => repeat (first | exact (Kd.C_below HR0_1.out HB.out) | (with_reducible refine Kd.C_alloc ?_ _) | (with_reducible refine Kd.C_drewN ?_ _) | (with_reducible refine Kd.C_drew ?_)))
            (case side4 => exact HC0_1.out)
            rintro e w51 ⟨rfl, hb⟩
            refine ⟨_, rfl, ?_⟩
            have n0_ := Aside0.mk (Kd.R_below (by (with_reducible repeat (first | apply Kd.R_alloc | apply Kd.R_drewN | apply Kd.R_drew)); exact HO_5.out) hb); have n1_ := Aside0.mk (Kd.R_below (by (with_reducible repeat (first | apply Kd.R_alloc | apply Kd.R_drewN | apply Kd.R_drew)); exact HO169.out) hb); have n2_ := Aside0.mk (Kd.R_below (by (with_reducible repeat (first | apply Kd.R_alloc | apply Kd.R_drewN | apply Kd.R_drew)); exact HO172.out) hb); have n3_ := Aside0.mk (blk_below (g := gb154) (o := .cells #[.slice A0_0 l0_0.length c0_0, .slice A0_1 l0_1.length c0_1] 80 (0, 0)) (by (with_reducible repeat (first | refine blk_drewN ?_ _ | refine blk_drew ?_ | refine blk_alloc ?_ _)); exact BK154.out) hb); have n4_ := Aside0.mk (blk_below (g := gb174) (o := .cells #[.slice Ao43 t167.length co43, .slice Ao46 t170.length co46] 80 (0, 0)) (by (with_reducible repeat (first | refine blk_drewN ?_ _ | refine blk_drew ?_ | refine blk_alloc ?_ _)); exact BK174.out) hb); have n5_ := Aside0.mk (below_step (by repeat (first | (with_reducible first | exact HB.out | apply below_alloc | apply pw_below_drewN | apply below_drew1 | refine below_set ?_ GE154.out | refine below_set ?_ GE174.out) | exact HB.out)) hb)
            clear HO_5
            clear HO169
            clear HO172
            clear BK154
            clear BK174
            clear HB
            have HO_5 := n0_
            have HO169 := n1_
            have HO172 := n2_
            have BK154 := n3_
            have BK174 := n4_
            have HB := n5_
            clear n0_ n1_ n2_ n3_ n4_ n5_
            (try clear hb)
            (try clear hb2)
            (try clear hk)
            (try clear hi)
            refine hK.out _ _ ⟨(blk_cell BK154.out 0).trans rfl, (blk_cell BK154.out 1).trans rfl, (blk_cell BK174.out 0).trans rfl, (blk_cell BK174.out 1).trans rfl, (own_string (P := Try.prog) Try.underlying52 Try.underlying5 Try.underlying9 (Kd.own_of_R HO_5.out))⟩ (fun hHeld => ?_)
            clear hK K
            refine norm_ (a' := ?_) ?_ ?_
            rotate_left
            ·show Act.put _ (some 61) _ = _
             simp only [Act.put, List.setIfInBounds_toArray, List.set_cons_zero, List.set_cons_succ, i64_w, i32_w]
             rfl
            refine pure_ (i := 10) (N := some 62) (v := ?_) (a' := ?_) (bs 22 2047) rfl rfl (any_of HT_.out (by kernel_rfl)) (fun _ _ _ h => h) (Or.inl ⟨by rfl, ?_⟩) ?_ ?_; rotate_left
            ·intro w'
             go_simp
             with_reducible rfl
            rotate_left
            ·simp only [Act.put, List.setIfInBounds_toArray, List.set_cons_zero, List.set_cons_succ, i64_w, i32_w]
             rfl
            refine pure_ (i := 11) (N := some 63) (v := ?_) (a' := ?_) (bs 22 4095) rfl rfl (any_of HT_.out (by kernel_rfl)) (fun _ _ _ h => h) (Or.inl ⟨by rfl, ?_⟩) ?_ ?_; rotate_left
            ·intro w'
             go_simp
             with_reducible rfl
            rotate_left
            ·simp only [Act.put, List.setIfInBounds_toArray, List.set_cons_zero, List.set_cons_succ, i64_w, i32_w]
             rfl
            refine pure_ (i := 12) (N := some 64) (v := ?_) (a' := ?_) (bs 22 8191) rfl rfl (any_of HT_.out (by kernel_rfl)) (fun _ _ _ h => h) (Or.inl ⟨by rfl, ?_⟩) ?_ ?_; rotate_left
            ·intro w'
             go_simp
             with_reducible rfl
            rotate_left
            ·simp only [Act.put, List.setIfInBounds_toArray, List.set_cons_zero, List.set_cons_succ, i64_w, i32_w]
             rfl
            refine pure_ (i := 13) (N := some 65) (v := ?_) (a' := ?_) (bs 22 16383) rfl rfl (any_of HT_.out (by kernel_rfl)) (fun _ _ _ h => h) (Or.inl ⟨by rfl, ?_⟩) ?_ ?_; rotate_left
            ·intro w'
             go_simp
             with_reducible rfl
            rotate_left
            ·simp only [Act.put, List.setIfInBounds_toArray, List.set_cons_zero, List.set_cons_succ, i64_w, i32_w]
             rfl
            refine pure_ (i := 14) (N := some 66) (v := ?_) (a' := ?_) (bs 22 32767) rfl rfl (any_of HT_.out (by kernel_rfl)) (fun _ _ _ h => h) (Or.inl ⟨by rfl, ?_⟩) ?_ ?_; rotate_left
            ·intro w'
             go_simp
             with_reducible rfl
            rotate_left
            ·simp only [Act.put, List.setIfInBounds_toArray, List.set_cons_zero, List.set_cons_succ, i64_w, i32_w]
             rfl
            refine pure_ (i := 15) (N := some 67) (v := ?_) (a' := ?_) (bs 22 65535) rfl rfl (any_of HT_.out (by kernel_rfl)) (fun _ _ _ h => h) (Or.inl ⟨by rfl, ?_⟩) ?_ ?_; rotate_left
            ·intro w'
             go_simp
             with_reducible rfl
            rotate_left
            ·simp only [Act.put, List.setIfInBounds_toArray, List.set_cons_zero, List.set_cons_succ, i64_w, i32_w]
             rfl
            refine pure_ (i := 16) (N := some 68) (v := ?_) (a' := ?_) (bs 22 131071) rfl rfl (any_of HT_.out (by kernel_rfl)) (fun _ _ _ h => h) (Or.inl ⟨by rfl, ?_⟩) ?_ ?_; rotate_left
            ·intro w'
             go_simp
             with_reducible rfl
            rotate_left
            ·simp only [Act.put, List.setIfInBounds_toArray, List.set_cons_zero, List.set_cons_succ, i64_w, i32_w]
             rfl
            refine take_ (i := 17) (N := some 69) (v := ?_) (a' := ?_) (bs 22 262143) rfl rfl (take_ofW HT_.out HW_.out (by kernel_rfl)) (fun _ _ _ h => h) (Or.inl ⟨by rfl, ?_⟩) hHeld ?_ ?_; rotate_left
            ·rintro w' ⟨s0, s1, s2, s3, s99⟩
             go_simp
             with_reducible rfl
            rotate_left
            ·simp only [Act.put, List.setIfInBounds_toArray, List.set_cons_zero, List.set_cons_succ, i64_w, i32_w]
             rfl
            refine take_ (i := 18) (N := some 70) (v := ?_) (a' := ?_) (bs 22 524287) rfl rfl (take_ofW HT_.out HW_.out (by kernel_rfl)) (fun _ _ _ h => h) (Or.inl ⟨by rfl, ?_⟩) hHeld ?_ ?_; rotate_left
            ·rintro w' ⟨s0, s1, s2, s3, s99⟩
             go_simp
             with_reducible rfl
            rotate_left
            ·simp only [Act.put, List.setIfInBounds_toArray, List.set_cons_zero, List.set_cons_succ, i64_w, i32_w]
             rfl
            refine one_ (i := 19) (N := some 71) (bs 22 1048575) rfl rfl (one_of HT_.out (by kernel_rfl)) (by decide) (fun K hK => ?_); refine goes_ Try.func31 (by kernel_rfl) rfl #[.agg #[.slice Ao43 t167.length co43, .slice Ao46 t170.length co46], .agg #[.slice A0_0 l0_0.length c0_0, .slice A0_1 l0_1.length c0_1]] (by rfl) rfl rfl (by (try simp only [List.map_toArray, List.map_cons, List.map_nil]); first | done | rfl) ?_
            with_reducible refine (schema_Same.calls kj14 _ _ t167 _ _ t170 _ _ l0_0 _ _ l0_1 t177 _ ?side1 ?side2 ?side3 ?side4 ?side5 ?side6 ?side7 ?side8 A37.out).mono ?_
            (case side1 => repeat (first | exact (Kd.R_reads' HO169.out).2.2 | (with_reducible refine Kd.C_alloc ?_ _) | (with_reducible refine Kd.C_drewN ?_ _) | (with_reducible refine Kd.C_drew ?_)))
            (case side2 => exact (Kd.R_reads' HO169.out).2.1)
            (case side3 => repeat (first | exact (Kd.R_reads' HO172.out).2.2 | (with_reducible refine Kd.C_alloc ?_ _) | (with_reducible refine Kd.C_drewN ?_ _) | (with_reducible refine Kd.C_drew ?_)))
            (case side4 => exact (Kd.R_reads' HO172.out).2.1)
            (case side5 => repeat (first | exact (Kd.C_below HR0_0.out HB.out) | (with_reducible refine Kd.C_alloc ?_ _) | (with_reducible refine Kd.C_drewN ?_ _) | (with_reducible refine Kd.C_drew ?_)))
            (case side6 => exact HC0_0.out)
            (case side7 => repeat (first | exact (Kd.C_below HR0_1.out HB.out) | (with_reducible refine Kd.C_alloc ?_ _) | (with_reducible refine Kd.C_drewN ?_ _) | (with_reducible refine Kd.C_drew ?_)))
            (case side8 => exact HC0_1.out)
            rintro e w53 ⟨rfl, hb⟩
            refine ⟨_, rfl, ?_⟩
            have n0_ := Aside0.mk (Kd.R_below (by (with_reducible repeat (first | apply Kd.R_alloc | apply Kd.R_drewN | apply Kd.R_drew)); exact HO_5.out) hb); have n1_ := Aside0.mk (Kd.R_below (by (with_reducible repeat (first | apply Kd.R_alloc | apply Kd.R_drewN | apply Kd.R_drew)); exact HO169.out) hb); have n2_ := Aside0.mk (Kd.R_below (by (with_reducible repeat (first | apply Kd.R_alloc | apply Kd.R_drewN | apply Kd.R_drew)); exact HO172.out) hb); have n3_ := Aside0.mk (blk_below (g := gb154) (o := .cells #[.slice A0_0 l0_0.length c0_0, .slice A0_1 l0_1.length c0_1] 80 (0, 0)) (by (with_reducible repeat (first | refine blk_drewN ?_ _ | refine blk_drew ?_ | refine blk_alloc ?_ _)); exact BK154.out) hb); have n4_ := Aside0.mk (blk_below (g := gb174) (o := .cells #[.slice Ao43 t167.length co43, .slice Ao46 t170.length co46] 80 (0, 0)) (by (with_reducible repeat (first | refine blk_drewN ?_ _ | refine blk_drew ?_ | refine blk_alloc ?_ _)); exact BK174.out) hb); have n5_ := Aside0.mk (below_step (by repeat (first | (with_reducible first | exact HB.out | apply below_alloc | apply pw_below_drewN | apply below_drew1 | refine below_set ?_ GE154.out | refine below_set ?_ GE174.out) | exact HB.out)) hb)
            clear HO_5
            clear HO169
            clear HO172
            clear BK154
            clear BK174
            clear HB
            have HO_5 := n0_
            have HO169 := n1_
            have HO172 := n2_
            have BK154 := n3_
            have BK174 := n4_
            have HB := n5_
            clear n0_ n1_ n2_ n3_ n4_ n5_
            (try clear hb)
            (try clear hb2)
            (try clear hk)
            (try clear hi)
            refine hK.out _ _ ⟨(blk_cell BK154.out 0).trans rfl, (blk_cell BK154.out 1).trans rfl, (blk_cell BK174.out 0).trans rfl, (blk_cell BK174.out 1).trans rfl, (own_string (P := Try.prog) Try.underlying52 Try.underlying5 Try.underlying9 (Kd.own_of_R HO_5.out))⟩ (fun hHeld => ?_)
            clear hK K
            refine norm_ (a' := ?_) ?_ ?_
            rotate_left
            ·show Act.put _ (some 71) _ = _
             simp only [Act.put, List.setIfInBounds_toArray, List.set_cons_zero, List.set_cons_succ, i64_w, i32_w]
             rfl
            refine pure_ (i := 20) (N := some 72) (v := ?_) (a' := ?_) (bs 22 2097151) rfl rfl (any_of HT_.out (by kernel_rfl)) (fun _ _ _ h => h) (Or.inl ⟨by rfl, ?_⟩) ?_ ?_; rotate_left
            ·intro w'
             go_simp
             with_reducible rfl
            rotate_left
            ·simp only [Act.put, List.setIfInBounds_toArray, List.set_cons_zero, List.set_cons_succ, i64_w, i32_w]
             rfl
            refine pure_ (i := 21) (N := some 4) (v := ?_) (a' := ?_) (bs 22 4194303) rfl rfl (any_of HT_.out (by kernel_rfl)) (fun _ _ _ h => h) (Or.inl ⟨by rfl, ?_⟩) ?_ ?_; rotate_left
            ·intro w'
             go_simp
             with_reducible rfl
            rotate_left
            ·simp only [Act.put, List.setIfInBounds_toArray, List.set_cons_zero, List.set_cons_succ, i64_w, i32_w]
             rfl
            refine done_ (done_of HT_.out (by kernel_rfl)) ?_
            try go_wp2
            go_ret
            exact ⟨by first | rfl | (simp [errW_none, errW_some] <;> rfl) | (simp [*, errW_none, errW_some] <;> rfl), by repeat (first | (with_reducible first | exact HB.out | apply below_alloc | apply pw_below_drewN | apply below_drew1 | refine below_set ?_ GE154.out | refine below_set ?_ GE174.out) | exact HB.out)⟩
           ·rw [if_neg c36] at H
            have c36b0 : (t173 == 0) = false := beq_eq_false_iff_ne.mpr c36; have c36b1 : (t173 != 0) = true := bne_iff_ne.mpr c36; obtain rfl := Option.some.inj H; have hcz54_0 := (blk_cell BK154.out 0).trans rfl; have hcz54_1 := (blk_cell BK154.out 1).trans rfl; have hfz54_0 := blk_frozen BK154.out 0; have hfz54_1 := blk_frozen BK154.out 1
            try go_wp2_with (first | ((with_reducible refine gate_callee (f := 30) rfl ?_); refine goesL_ (some 35) rfl rfl Try.func30 (by kernel_rfl) rfl #[.agg #[.slice A0_0 l0_0.length c0_0, .slice A0_1 l0_1.length c0_1]] rfl (by (try simp only [List.map_toArray, List.map_cons, List.map_nil]); first | done | rfl) ?_; (with_reducible refine (rowlockref12_May.calls kj14 _ _ l0_0 _ _ l0_1 true _ ?side1 ?side2 ?side3 ?side4 A28.out).mono ?_); (case side1 => repeat (first | exact (Kd.C_below HR0_0.out HB.out) | (with_reducible refine Kd.C_alloc ?_ _) | (with_reducible refine Kd.C_drewN ?_ _) | (with_reducible refine Kd.C_drew ?_))); (case side2 => exact HC0_0.out); (case side3 => repeat (first | exact (Kd.C_below HR0_1.out HB.out) | (with_reducible refine Kd.C_alloc ?_ _) | (with_reducible refine Kd.C_drewN ?_ _) | (with_reducible refine Kd.C_drew ?_))); (case side4 => exact HC0_1.out); rintro e w55 ⟨rfl, hb⟩; refine ⟨_, rfl, ?_⟩; have n0_ := Aside0.mk (Kd.R_below HO_5.out hb); have n1_ := Aside0.mk (blk_below (g := gb154) (o := .cells #[.slice A0_0 l0_0.length c0_0, .slice A0_1 l0_1.length c0_1] 80 (0, 0)) BK154.out hb); have n2_ := Aside0.mk (below_step HB.out hb); clear HO_5; clear BK154; clear HB; have HO_5 := n0_; have BK154 := n1_; have HB := n2_; clear n0_ n1_ n2_; (try clear hb); (try clear hb2); (try clear hk); (try clear hi); obtain ⟨Ao56, co56, eo56⟩ := Kd.R_slice HO_5.out; subst eo56) | ((with_reducible refine gate_callee (f := 37) rfl ?_); refine goesL_ (some 49) rfl rfl Try.func37 (by kernel_rfl) rfl #[.slice Ao56 t157.length co56] rfl (by (try simp only [List.map_toArray, List.map_cons, List.map_nil]); first | done | rfl) ?_; (with_reducible refine (schema_Get.calls kj14 _ _ t157 t167 t170 t173 _ ?side1 ?side2 A30.out).mono ?_); (case side1 => repeat (first | exact (Kd.R_reads' HO_5.out).2.2 | (with_reducible refine Kd.C_alloc ?_ _) | (with_reducible refine Kd.C_drewN ?_ _) | (with_reducible refine Kd.C_drew ?_))); (case side2 => exact (Kd.R_reads' HO_5.out).2.1); rintro e w57 ⟨v168, v171, rfl, ho0, ho1, hb⟩; refine ⟨_, rfl, ?_⟩; have n0_ := Aside0.mk (Kd.R_below HO_5.out hb); have n1_ := Aside0.mk (Kd.R_lower ho0 (below_size HB.out)); have n2_ := Aside0.mk (Kd.R_lower ho1 (below_size HB.out)); have n3_ := Aside0.mk (blk_below (g := gb154) (o := .cells #[.slice A0_0 l0_0.length c0_0, .slice A0_1 l0_1.length c0_1] 80 (0, 0)) BK154.out hb); have n4_ := Aside0.mk (below_step HB.out hb); clear HO_5; clear BK154; clear HB; have HO_5 := n0_; have HO169 := n1_; have HO172 := n2_; have BK154 := n3_; have HB := n4_; clear n0_ n1_ n2_ n3_ n4_; (try clear hb); (try clear hb2); (try clear hk); (try clear hi); (try clear ho0); (try clear ho1)) | ((with_reducible refine gate_dst (N := 7) rfl ?_); (try (refine gate_guard (by rfl) ?_; dsimp only)); refine box_event ?hg (N := 7) ?hd (cs := #[.slice none 0 0, .slice none 0 0]) (t := 80) ?hr ?_; (case hd => rfl); (case hg => rfl); (case hr => first | (go_simp; done) | (go_simp; rfl)); intro gb174 hg w58 hbox hb; have n0_ := Aside0.mk (Kd.R_below HO_5.out hb); have n1_ := Aside0.mk (Kd.R_below HO169.out hb); have n2_ := Aside0.mk (Kd.R_below HO172.out hb); have n3_ := Aside0.mk (blk_below (g := gb154) (o := .cells #[.slice A0_0 l0_0.length c0_0, .slice A0_1 l0_1.length c0_1] 80 (0, 0)) BK154.out hb); have n4_ := Aside0.mk (below_step HB.out hb); have n5_ := Aside0.mk (hbox); have n6_ := Aside0.mk ((by rw [hg]; exact (below_size HB.out) : w.heap.size ≤ gb174)); have n7_ := Aside0.mk ((by rw [hg]; exact (below_size HB.out) : w.heap.size ≤ gb174)); have n8_ := Aside0.mk ((by rw [hg]; exact Nat.ne_of_lt (blk_lt (g := gb154) (o := .cells #[.slice A0_0 l0_0.length c0_0, .slice A0_1 l0_1.length c0_1] 80 (0, 0)) BK154.out) : gb154 ≠ gb174)); have n9_ := Aside0.mk ((by rw [hg]; exact Nat.ne_of_gt (blk_lt (g := gb154) (o := .cells #[.slice A0_0 l0_0.length c0_0, .slice A0_1 l0_1.length c0_1] 80 (0, 0)) BK154.out) : gb174 ≠ gb154)); clear HO_5; clear HO169; clear HO172; clear BK154; clear HB; have HO_5 := n0_; have HO169 := n1_; have HO172 := n2_; have BK154 := n3_; have HB := n4_; have BK174 := n5_; have GW174 := n6_; have GE174 := n7_; have NB154_174 := n8_; have NB174_154 := n9_; clear n0_ n1_ n2_ n3_ n4_ n5_ n6_ n7_ n8_ n9_; clear hb hbox hg; obtain ⟨Ao59, co59, eo59⟩ := Kd.R_slice HO169.out; subst eo59; have hnb60 := NB174_154.out; have hnc60 := NB154_174.out; have hcz61_0 := (blk_cell BK174.out 0).trans rfl; have hcz61_1 := (blk_cell BK174.out 1).trans rfl; have hfz61_0 := blk_frozen BK174.out 0; have hfz61_1 := blk_frozen BK174.out 1; obtain ⟨Ao62, co62, eo62⟩ := Kd.R_slice HO172.out; subst eo62))
            have n0_ : Aside0 (Kd.R (Kd.int .u8) 5 ((w58.setCell ⟨gb174, 0, none⟩ (.slice Ao59 t167.length co59)).setCell ⟨gb174, 1, none⟩ (.slice Ao62 t170.length co62)) w.heap.size (fun _ => True) (.slice Ao56 t157.length co56) t157) := ⟨by (with_reducible repeat (first | apply Kd.R_alloc | apply Kd.R_drewN | apply Kd.R_drew)); exact Kd.R_mono (Kd.R_far (p := ⟨gb174, 1, none⟩) (Kd.R_far (p := ⟨gb174, 0, none⟩) (Kd.R_types HO_5.out BK174.out (by decide)) (fun _ hk => hk.2) (.slice Ao59 t167.length co59)) (fun _ hk => hk.2) (.slice Ao62 t170.length co62)) (fun _ hk => trivial)⟩; have n1_ : Aside0 (Kd.R k84 84 ((w58.setCell ⟨gb174, 0, none⟩ (.slice Ao59 t167.length co59)).setCell ⟨gb174, 1, none⟩ (.slice Ao62 t170.length co62)) w.heap.size (fun _ => True) (.slice Ao59 t167.length co59) t167) := ⟨by (with_reducible repeat (first | apply Kd.R_alloc | apply Kd.R_drewN | apply Kd.R_drew)); exact Kd.R_mono (Kd.R_far (p := ⟨gb174, 1, none⟩) (Kd.R_far (p := ⟨gb174, 0, none⟩) (Kd.R_types HO169.out BK174.out (by decide)) (fun _ hk => hk.2) (.slice Ao59 t167.length co59)) (fun _ hk => hk.2) (.slice Ao62 t170.length co62)) (fun _ hk => trivial)⟩; have n2_ : Aside0 (Kd.R k135 135 ((w58.setCell ⟨gb174, 0, none⟩ (.slice Ao59 t167.length co59)).setCell ⟨gb174, 1, none⟩ (.slice Ao62 t170.length co62)) w.heap.size (fun _ => True) (.slice Ao62 t170.length co62) t170) := ⟨by (with_reducible repeat (first | apply Kd.R_alloc | apply Kd.R_drewN | apply Kd.R_drew)); exact Kd.R_mono (Kd.R_far (p := ⟨gb174, 1, none⟩) (Kd.R_far (p := ⟨gb174, 0, none⟩) (Kd.R_types HO172.out BK174.out (by decide)) (fun _ hk => hk.2) (.slice Ao59 t167.length co59)) (fun _ hk => hk.2) (.slice Ao62 t170.length co62)) (fun _ hk => trivial)⟩; have n3_ : Aside0 (((w58.setCell ⟨gb174, 0, none⟩ (.slice Ao59 t167.length co59)).setCell ⟨gb174, 1, none⟩ (.slice Ao62 t170.length co62)).heap[gb154]? = some (.cells #[.slice A0_0 l0_0.length c0_0, .slice A0_1 l0_1.length c0_1] 80 (0, 0))) := ⟨by (with_reducible repeat (first | refine blk_drewN ?_ _ | refine blk_drew ?_ | refine blk_alloc ?_ _)); refine blk_far ?_ NB154_174.out _; (with_reducible repeat (first | refine blk_drewN ?_ _ | refine blk_drew ?_ | refine blk_alloc ?_ _)); refine blk_far ?_ NB154_174.out _; (with_reducible repeat (first | refine blk_drewN ?_ _ | refine blk_drew ?_ | refine blk_alloc ?_ _)); exact BK154.out⟩; have n4_ : Aside0 (((w58.setCell ⟨gb174, 0, none⟩ (.slice Ao59 t167.length co59)).setCell ⟨gb174, 1, none⟩ (.slice Ao62 t170.length co62)).heap[gb174]? = some (.cells #[.slice Ao59 t167.length co59, .slice Ao62 t170.length co62] 80 (0, 0))) := ⟨by (with_reducible repeat (first | refine blk_drewN ?_ _ | refine blk_drew ?_ | refine blk_alloc ?_ _)); refine blk_put (cs := #[.slice Ao59 t167.length co59, .slice none 0 0]) ?_ 1 _ rfl; (with_reducible repeat (first | refine blk_drewN ?_ _ | refine blk_drew ?_ | refine blk_alloc ?_ _)); refine blk_put (cs := #[.slice none 0 0, .slice none 0 0]) ?_ 0 _ rfl; (with_reducible repeat (first | refine blk_drewN ?_ _ | refine blk_drew ?_ | refine blk_alloc ?_ _)); exact BK174.out⟩; have n5_ : Aside0 (Below w.heap.size w ((w58.setCell ⟨gb174, 0, none⟩ (.slice Ao59 t167.length co59)).setCell ⟨gb174, 1, none⟩ (.slice Ao62 t170.length co62))) := ⟨by repeat (first | (with_reducible first | exact HB.out | apply below_alloc | apply pw_below_drewN | apply below_drew1 | refine below_set ?_ GE154.out | refine below_set ?_ GE174.out) | exact HB.out)⟩; (try clear HO_5); (try clear HO169); (try clear HO172); (try clear BK154); (try clear BK174); (try clear HB); generalize ((w58.setCell ⟨gb174, 0, none⟩ (.slice Ao59 t167.length co59)).setCell ⟨gb174, 1, none⟩ (.slice Ao62 t170.length co62)) = w63 at n0_ n1_ n2_ n3_ n4_ n5_ ⊢; have HO_5 := n0_; have HO169 := n1_; have HO172 := n2_; have BK154 := n3_; have BK174 := n4_; have HB := n5_; clear n0_ n1_ n2_ n3_ n4_ n5_; have n0_ := Aside0.mk (Kd.R_drew HO_5.out); have n1_ := Aside0.mk (Kd.R_drew HO169.out); have n2_ := Aside0.mk (Kd.R_drew HO172.out); have n3_ := Aside0.mk (blk_drew BK154.out); have n4_ := Aside0.mk (blk_drew BK174.out); have n5_ := Aside0.mk (below_drew1 HB.out); clear HO_5; clear HO169; clear HO172; clear BK154; clear BK174; clear HB; have HO_5 := n0_; have HO169 := n1_; have HO172 := n2_; have BK154 := n3_; have BK174 := n4_; have HB := n5_; clear n0_ n1_ n2_ n3_ n4_ n5_; refine start_ (n := 22) (S := fun w' => w'.cell? ⟨gb154, 0, none⟩ = some (.slice A0_0 l0_0.length c0_0) ∧ w'.cell? ⟨gb154, 1, none⟩ = some (.slice A0_1 l0_1.length c0_1) ∧ (convert 52 9 (.slice Ao56 t157.length co56)).run Try.prog w' = .ok (.string (strOfNums t157)) w') (ds := []) #[false, false, false, false, false, false, false, false, false, false, false, false, false, false, false, false, false, false, false, false, false, false] (by kernel_rfl) rfl rfl ⟨(blk_cell BK154.out 0).trans rfl, (blk_cell BK154.out 1).trans rfl, (own_string (P := Try.prog) Try.underlying52 Try.underlying5 Try.underlying9 (Kd.own_of_R (Kd.R_drew HO_5.out)))⟩ (fun hHeld => ?_); refine with_tabW rowlocklaw12_SchemaPuts.tab9 rowlocklaw12_SchemaPuts.bits9 (fun HT_ HW_ => ?_); generalize w63.drew = w64 at HO_5 HO169 HO172 BK154 BK174 HB hHeld ⊢; refine one_ (i := 0) (N := some 52) (bs 22 1) rfl rfl (one_of HT_.out (by kernel_rfl)) (by decide) (fun K hK => ?_); refine goes_ Try.func27 (by kernel_rfl) rfl #[] (by rfl) rfl rfl (by (try simp only [List.map_toArray, List.map_cons, List.map_nil]); first | done | rfl) ?_
            with_reducible refine (rowlocklaw12_fixed.calls  true _ A31.out).mono ?_
            rintro e w65 ⟨rfl, hb⟩
            refine ⟨_, rfl, ?_⟩
            have n0_ := Aside0.mk (Kd.R_below (by (with_reducible repeat (first | apply Kd.R_alloc | apply Kd.R_drewN | apply Kd.R_drew)); exact HO_5.out) hb); have n1_ := Aside0.mk (Kd.R_below (by (with_reducible repeat (first | apply Kd.R_alloc | apply Kd.R_drewN | apply Kd.R_drew)); exact HO169.out) hb); have n2_ := Aside0.mk (Kd.R_below (by (with_reducible repeat (first | apply Kd.R_alloc | apply Kd.R_drewN | apply Kd.R_drew)); exact HO172.out) hb); have n3_ := Aside0.mk (blk_below (g := gb154) (o := .cells #[.slice A0_0 l0_0.length c0_0, .slice A0_1 l0_1.length c0_1] 80 (0, 0)) (by (with_reducible repeat (first | refine blk_drewN ?_ _ | refine blk_drew ?_ | refine blk_alloc ?_ _)); exact BK154.out) hb); have n4_ := Aside0.mk (blk_below (g := gb174) (o := .cells #[.slice Ao59 t167.length co59, .slice Ao62 t170.length co62] 80 (0, 0)) (by (with_reducible repeat (first | refine blk_drewN ?_ _ | refine blk_drew ?_ | refine blk_alloc ?_ _)); exact BK174.out) hb); have n5_ := Aside0.mk (below_step (by repeat (first | (with_reducible first | exact HB.out | apply below_alloc | apply pw_below_drewN | apply below_drew1 | refine below_set ?_ GE154.out | refine below_set ?_ GE174.out) | exact HB.out)) hb)
            clear HO_5
            clear HO169
            clear HO172
            clear BK154
            clear BK174
            clear HB
            have HO_5 := n0_
            have HO169 := n1_
            have HO172 := n2_
            have BK154 := n3_
            have BK174 := n4_
            have HB := n5_
            clear n0_ n1_ n2_ n3_ n4_ n5_
            (try clear hb)
            (try clear hb2)
            (try clear hk)
            (try clear hi)
            have hcv66 := own_string (P := Try.prog) Try.underlying52 Try.underlying5 Try.underlying9 (Kd.own_of_R HO_5.out)
            refine hK.out _ _ ⟨(blk_cell BK154.out 0).trans rfl, (blk_cell BK154.out 1).trans rfl, (own_string (P := Try.prog) Try.underlying52 Try.underlying5 Try.underlying9 (Kd.own_of_R HO_5.out))⟩ (fun hHeld => ?_)
            clear hK K
            refine norm_ (a' := ?_) ?_ ?_
            rotate_left
            ·show Act.put _ (some 52) _ = _
             simp only [Act.put, List.setIfInBounds_toArray, List.set_cons_zero, List.set_cons_succ, i64_w, i32_w]
             rfl
            refine pure_ (i := 1) (N := some 53) (v := ?_) (a' := ?_) (bs 22 3) rfl rfl (any_of HT_.out (by kernel_rfl)) (fun _ _ _ h => h) (Or.inl ⟨by rfl, ?_⟩) ?_ ?_; rotate_left
            ·intro w'
             go_simp
             with_reducible rfl
            rotate_left
            ·simp only [Act.put, List.setIfInBounds_toArray, List.set_cons_zero, List.set_cons_succ, i64_w, i32_w]
             rfl
            refine pure_ (i := 2) (N := some 54) (v := ?_) (a' := ?_) (bs 22 7) rfl rfl (any_of HT_.out (by kernel_rfl)) (fun _ _ _ h => h) (Or.inl ⟨by rfl, ?_⟩) ?_ ?_; rotate_left
            ·intro w'
             go_simp
             with_reducible rfl
            rotate_left
            ·simp only [Act.put, List.setIfInBounds_toArray, List.set_cons_zero, List.set_cons_succ, i64_w, i32_w]
             rfl
            refine pure_ (i := 3) (N := some 55) (v := ?_) (a' := ?_) (bs 22 15) rfl rfl (any_of HT_.out (by kernel_rfl)) (fun _ _ _ h => h) (Or.inl ⟨by rfl, ?_⟩) ?_ ?_; rotate_left
            ·intro w'
             go_simp
             with_reducible rfl
            rotate_left
            ·simp only [Act.put, List.setIfInBounds_toArray, List.set_cons_zero, List.set_cons_succ, i64_w, i32_w]
             rfl
            refine pure_ (i := 4) (N := some 56) (v := ?_) (a' := ?_) (bs 22 31) rfl rfl (any_of HT_.out (by kernel_rfl)) (fun _ _ _ h => h) (Or.inl ⟨by rfl, ?_⟩) ?_ ?_; rotate_left
            ·intro w'
             go_simp
             with_reducible rfl
            rotate_left
            ·simp only [Act.put, List.setIfInBounds_toArray, List.set_cons_zero, List.set_cons_succ, i64_w, i32_w]
             rfl
            refine pure_ (i := 5) (N := some 57) (v := ?_) (a' := ?_) (bs 22 63) rfl rfl (any_of HT_.out (by kernel_rfl)) (fun _ _ _ h => h) (Or.inl ⟨by rfl, ?_⟩) ?_ ?_; rotate_left
            ·intro w'
             go_simp
             with_reducible rfl
            rotate_left
            ·simp only [Act.put, List.setIfInBounds_toArray, List.set_cons_zero, List.set_cons_succ, i64_w, i32_w]
             rfl
            refine pure_ (i := 6) (N := some 58) (v := ?_) (a' := ?_) (bs 22 127) rfl rfl (any_of HT_.out (by kernel_rfl)) (fun _ _ _ h => h) (Or.inl ⟨by rfl, ?_⟩) ?_ ?_; rotate_left
            ·intro w'
             go_simp
             with_reducible rfl
            rotate_left
            ·simp only [Act.put, List.setIfInBounds_toArray, List.set_cons_zero, List.set_cons_succ, i64_w, i32_w]
             rfl
            refine take_ (i := 7) (N := some 59) (v := ?_) (a' := ?_) (bs 22 255) rfl rfl (take_ofW HT_.out HW_.out (by kernel_rfl)) (fun _ _ _ h => h) (Or.inl ⟨by rfl, ?_⟩) hHeld ?_ ?_; rotate_left
            ·rintro w' ⟨_, _, s99⟩
             go_simp
             with_reducible rfl
            rotate_left
            ·simp only [Act.put, List.setIfInBounds_toArray, List.set_cons_zero, List.set_cons_succ, i64_w, i32_w]
             rfl
            refine take_ (i := 8) (N := some 60) (v := ?_) (a' := ?_) (bs 22 511) rfl rfl (take_ofW HT_.out HW_.out (by kernel_rfl)) (fun _ _ _ h => h) (Or.inl ⟨by rfl, ?_⟩) hHeld ?_ ?_; rotate_left
            ·rintro w' ⟨s0, s1, s99⟩
             go_simp
             with_reducible rfl
            rotate_left
            ·simp only [Act.put, List.setIfInBounds_toArray, List.set_cons_zero, List.set_cons_succ, i64_w, i32_w]
             rfl
            refine one_ (i := 9) (N := some 61) (bs 22 1023) rfl rfl (one_of HT_.out (by kernel_rfl)) (by decide) (fun K hK => ?_); refine goes_ Try.func32 (by kernel_rfl) rfl #[.agg #[.slice A0_0 l0_0.length c0_0, .slice A0_1 l0_1.length c0_1]] (by rfl) rfl rfl (by (try simp only [List.map_toArray, List.map_cons, List.map_nil]); first | done | rfl) ?_
            with_reducible refine (rowlockref12_Put.calls kj14 _ _ l0_0 _ _ l0_1 t176 _ ?side1 ?side2 ?side3 ?side4 A34.out).mono ?_
            (case side1 => repeat (first | exact (Kd.C_below HR0_0.out HB.out) | (with_reducible refine Kd.C_alloc ?_ _) | (with_reducible refine Kd.C_drewN ?_ _) | (with_reducible refine Kd.C_drew ?_)))
            (case side2 => exact HC0_0.out)
            (case side3 => repeat (first | exact (Kd.C_below HR0_1.out HB.out) | (with_reducible refine Kd.C_alloc ?_ _) | (with_reducible refine Kd.C_drewN ?_ _) | (with_reducible refine Kd.C_drew ?_)))
            (case side4 => exact HC0_1.out)
            rintro e w67 ⟨rfl, hb⟩
            refine ⟨_, rfl, ?_⟩
            have n0_ := Aside0.mk (Kd.R_below (by (with_reducible repeat (first | apply Kd.R_alloc | apply Kd.R_drewN | apply Kd.R_drew)); exact HO_5.out) hb); have n1_ := Aside0.mk (Kd.R_below (by (with_reducible repeat (first | apply Kd.R_alloc | apply Kd.R_drewN | apply Kd.R_drew)); exact HO169.out) hb); have n2_ := Aside0.mk (Kd.R_below (by (with_reducible repeat (first | apply Kd.R_alloc | apply Kd.R_drewN | apply Kd.R_drew)); exact HO172.out) hb); have n3_ := Aside0.mk (blk_below (g := gb154) (o := .cells #[.slice A0_0 l0_0.length c0_0, .slice A0_1 l0_1.length c0_1] 80 (0, 0)) (by (with_reducible repeat (first | refine blk_drewN ?_ _ | refine blk_drew ?_ | refine blk_alloc ?_ _)); exact BK154.out) hb); have n4_ := Aside0.mk (blk_below (g := gb174) (o := .cells #[.slice Ao59 t167.length co59, .slice Ao62 t170.length co62] 80 (0, 0)) (by (with_reducible repeat (first | refine blk_drewN ?_ _ | refine blk_drew ?_ | refine blk_alloc ?_ _)); exact BK174.out) hb); have n5_ := Aside0.mk (below_step (by repeat (first | (with_reducible first | exact HB.out | apply below_alloc | apply pw_below_drewN | apply below_drew1 | refine below_set ?_ GE154.out | refine below_set ?_ GE174.out) | exact HB.out)) hb)
            clear HO_5
            clear HO169
            clear HO172
            clear BK154
            clear BK174
            clear HB
            have HO_5 := n0_
            have HO169 := n1_
            have HO172 := n2_
            have BK154 := n3_
            have BK174 := n4_
            have HB := n5_
            clear n0_ n1_ n2_ n3_ n4_ n5_
            (try clear hb)
            (try clear hb2)
            (try clear hk)
            (try clear hi)
            refine hK.out _ _ ⟨(blk_cell BK154.out 0).trans rfl, (blk_cell BK154.out 1).trans rfl, (own_string (P := Try.prog) Try.underlying52 Try.underlying5 Try.underlying9 (Kd.own_of_R HO_5.out))⟩ (fun hHeld => ?_)
            clear hK K
            refine norm_ (a' := ?_) ?_ ?_
            rotate_left
            ·show Act.put _ (some 61) _ = _
             simp only [Act.put, List.setIfInBounds_toArray, List.set_cons_zero, List.set_cons_succ, i64_w, i32_w]
             rfl
            refine pure_ (i := 10) (N := some 62) (v := ?_) (a' := ?_) (bs 22 2047) rfl rfl (any_of HT_.out (by kernel_rfl)) (fun _ _ _ h => h) (Or.inl ⟨by rfl, ?_⟩) ?_ ?_; rotate_left
            ·intro w'
             go_simp
             with_reducible rfl
            rotate_left
            ·simp only [Act.put, List.setIfInBounds_toArray, List.set_cons_zero, List.set_cons_succ, i64_w, i32_w]
             rfl
            refine pure_ (i := 11) (N := some 63) (v := ?_) (a' := ?_) (bs 22 4095) rfl rfl (any_of HT_.out (by kernel_rfl)) (fun _ _ _ h => h) (Or.inl ⟨by rfl, ?_⟩) ?_ ?_; rotate_left
            ·intro w'
             go_simp
             with_reducible rfl
            rotate_left
            ·simp only [Act.put, List.setIfInBounds_toArray, List.set_cons_zero, List.set_cons_succ, i64_w, i32_w]
             rfl
            refine pure_ (i := 12) (N := some 64) (v := ?_) (a' := ?_) (bs 22 8191) rfl rfl (any_of HT_.out (by kernel_rfl)) (fun _ _ _ h => h) (Or.inl ⟨by rfl, ?_⟩) ?_ ?_; rotate_left
            ·intro w'
             go_simp
             with_reducible rfl
            rotate_left
            ·simp only [Act.put, List.setIfInBounds_toArray, List.set_cons_zero, List.set_cons_succ, i64_w, i32_w]
             rfl
            refine pure_ (i := 13) (N := some 65) (v := ?_) (a' := ?_) (bs 22 16383) rfl rfl (any_of HT_.out (by kernel_rfl)) (fun _ _ _ h => h) (Or.inl ⟨by rfl, ?_⟩) ?_ ?_; rotate_left
            ·intro w'
             go_simp
             with_reducible rfl
            rotate_left
            ·simp only [Act.put, List.setIfInBounds_toArray, List.set_cons_zero, List.set_cons_succ, i64_w, i32_w]
             rfl
            refine pure_ (i := 14) (N := some 66) (v := ?_) (a' := ?_) (bs 22 32767) rfl rfl (any_of HT_.out (by kernel_rfl)) (fun _ _ _ h => h) (Or.inl ⟨by rfl, ?_⟩) ?_ ?_; rotate_left
            ·intro w'
             go_simp
             with_reducible rfl
            rotate_left
            ·simp only [Act.put, List.setIfInBounds_toArray, List.set_cons_zero, List.set_cons_succ, i64_w, i32_w]
             rfl
            refine pure_ (i := 15) (N := some 67) (v := ?_) (a' := ?_) (bs 22 65535) rfl rfl (any_of HT_.out (by kernel_rfl)) (fun _ _ _ h => h) (Or.inl ⟨by rfl, ?_⟩) ?_ ?_; rotate_left
            ·intro w'
             go_simp
             with_reducible rfl
            rotate_left
            ·simp only [Act.put, List.setIfInBounds_toArray, List.set_cons_zero, List.set_cons_succ, i64_w, i32_w]
             rfl
            refine pure_ (i := 16) (N := some 68) (v := ?_) (a' := ?_) (bs 22 131071) rfl rfl (any_of HT_.out (by kernel_rfl)) (fun _ _ _ h => h) (Or.inl ⟨by rfl, ?_⟩) ?_ ?_; rotate_left
            ·intro w'
             go_simp
             with_reducible rfl
            rotate_left
            ·simp only [Act.put, List.setIfInBounds_toArray, List.set_cons_zero, List.set_cons_succ, i64_w, i32_w]
             rfl
            refine pure_ (i := 17) (N := some 69) (v := undef) (a' := ?_) (bs 22 262143) rfl rfl (any_of HT_.out (by kernel_rfl)) (fun _ _ _ h => h) (Or.inr ⟨by rfl, rfl⟩) ?_ ?_; rotate_left
            ·simp only [Act.put, List.setIfInBounds_toArray, List.set_cons_zero, List.set_cons_succ, i64_w, i32_w]
             rfl
            refine pure_ (i := 18) (N := some 70) (v := undef) (a' := ?_) (bs 22 524287) rfl rfl (any_of HT_.out (by kernel_rfl)) (fun _ _ _ h => h) (Or.inr ⟨by rfl, rfl⟩) ?_ ?_; rotate_left
            ·simp only [Act.put, List.setIfInBounds_toArray, List.set_cons_zero, List.set_cons_succ, i64_w, i32_w]
             rfl
            refine pure_ (i := 19) (N := some 71) (v := undef) (a' := ?_) (bs 22 1048575) rfl rfl (any_of HT_.out (by kernel_rfl)) (fun _ _ _ h => h) (Or.inr ⟨by rfl, rfl⟩) ?_ ?_; rotate_left
            ·simp only [Act.put, List.setIfInBounds_toArray, List.set_cons_zero, List.set_cons_succ, i64_w, i32_w]
             rfl
            refine pure_ (i := 20) (N := some 72) (v := ?_) (a' := ?_) (bs 22 2097151) rfl rfl (any_of HT_.out (by kernel_rfl)) (fun _ _ _ h => h) (Or.inl ⟨by rfl, ?_⟩) ?_ ?_; rotate_left
            ·intro w'
             go_simp
             with_reducible rfl
            rotate_left
            ·simp only [Act.put, List.setIfInBounds_toArray, List.set_cons_zero, List.set_cons_succ, i64_w, i32_w]
             rfl
            refine pure_ (i := 21) (N := some 4) (v := ?_) (a' := ?_) (bs 22 4194303) rfl rfl (any_of HT_.out (by kernel_rfl)) (fun _ _ _ h => h) (Or.inl ⟨by rfl, ?_⟩) ?_ ?_; rotate_left
            ·intro w'
             go_simp
             with_reducible rfl
            rotate_left
            ·simp only [Act.put, List.setIfInBounds_toArray, List.set_cons_zero, List.set_cons_succ, i64_w, i32_w]
             rfl
            refine done_ (done_of HT_.out (by kernel_rfl)) ?_
            try go_wp2
            go_ret
            exact ⟨by first | rfl | (simp [errW_none, errW_some] <;> rfl) | (simp [*, errW_none, errW_some] <;> rfl), by repeat (first | (with_reducible first | exact HB.out | apply below_alloc | apply pw_below_drewN | apply below_drew1 | refine below_set ?_ GE154.out | refine below_set ?_ GE174.out) | exact HB.out)⟩
          ·rw [if_neg c35] at H
           have c35b0 : ((strOfNums t157).toList == t176.toList) = false := beq_eq_false_iff_ne.mpr c35; have c35b1 : ((strOfNums t157).toList != t176.toList) = true := bne_iff_ne.mpr c35; obtain rfl := Option.some.inj H; have hcz69_0 := (blk_cell BK154.out 0).trans rfl; have hcz69_1 := (blk_cell BK154.out 1).trans rfl; have hfz69_0 := blk_frozen BK154.out 0; have hfz69_1 := blk_frozen BK154.out 1
           try go_wp2_with (first | ((with_reducible refine gate_callee (f := 30) rfl ?_); refine goesL_ (some 35) rfl rfl Try.func30 (by kernel_rfl) rfl #[.agg #[.slice A0_0 l0_0.length c0_0, .slice A0_1 l0_1.length c0_1]] rfl (by (try simp only [List.map_toArray, List.map_cons, List.map_nil]); first | done | rfl) ?_; (with_reducible refine (rowlockref12_May.calls kj14 _ _ l0_0 _ _ l0_1 true _ ?side1 ?side2 ?side3 ?side4 A28.out).mono ?_); (case side1 => repeat (first | exact (Kd.C_below HR0_0.out HB.out) | (with_reducible refine Kd.C_alloc ?_ _) | (with_reducible refine Kd.C_drewN ?_ _) | (with_reducible refine Kd.C_drew ?_))); (case side2 => exact HC0_0.out); (case side3 => repeat (first | exact (Kd.C_below HR0_1.out HB.out) | (with_reducible refine Kd.C_alloc ?_ _) | (with_reducible refine Kd.C_drewN ?_ _) | (with_reducible refine Kd.C_drew ?_))); (case side4 => exact HC0_1.out); rintro e w70 ⟨rfl, hb⟩; refine ⟨_, rfl, ?_⟩; have n0_ := Aside0.mk (Kd.R_below HO_5.out hb); have n1_ := Aside0.mk (blk_below (g := gb154) (o := .cells #[.slice A0_0 l0_0.length c0_0, .slice A0_1 l0_1.length c0_1] 80 (0, 0)) BK154.out hb); have n2_ := Aside0.mk (below_step HB.out hb); clear HO_5; clear BK154; clear HB; have HO_5 := n0_; have BK154 := n1_; have HB := n2_; clear n0_ n1_ n2_; (try clear hb); (try clear hb2); (try clear hk); (try clear hi); obtain ⟨Ao71, co71, eo71⟩ := Kd.R_slice HO_5.out; subst eo71) | ((with_reducible refine gate_callee (f := 37) rfl ?_); refine goesL_ (some 49) rfl rfl Try.func37 (by kernel_rfl) rfl #[.slice Ao71 t157.length co71] rfl (by (try simp only [List.map_toArray, List.map_cons, List.map_nil]); first | done | rfl) ?_; (with_reducible refine (schema_Get.calls kj14 _ _ t157 t167 t170 t173 _ ?side1 ?side2 A30.out).mono ?_); (case side1 => repeat (first | exact (Kd.R_reads' HO_5.out).2.2 | (with_reducible refine Kd.C_alloc ?_ _) | (with_reducible refine Kd.C_drewN ?_ _) | (with_reducible refine Kd.C_drew ?_))); (case side2 => exact (Kd.R_reads' HO_5.out).2.1); rintro e w72 ⟨v168, v171, rfl, ho0, ho1, hb⟩; refine ⟨_, rfl, ?_⟩; have n0_ := Aside0.mk (Kd.R_below HO_5.out hb); have n1_ := Aside0.mk (Kd.R_lower ho0 (below_size HB.out)); have n2_ := Aside0.mk (Kd.R_lower ho1 (below_size HB.out)); have n3_ := Aside0.mk (blk_below (g := gb154) (o := .cells #[.slice A0_0 l0_0.length c0_0, .slice A0_1 l0_1.length c0_1] 80 (0, 0)) BK154.out hb); have n4_ := Aside0.mk (below_step HB.out hb); clear HO_5; clear BK154; clear HB; have HO_5 := n0_; have HO169 := n1_; have HO172 := n2_; have BK154 := n3_; have HB := n4_; clear n0_ n1_ n2_ n3_ n4_; (try clear hb); (try clear hb2); (try clear hk); (try clear hi); (try clear ho0); (try clear ho1)) | ((with_reducible refine gate_dst (N := 7) rfl ?_); (try (refine gate_guard (by rfl) ?_; dsimp only)); refine box_event ?hg (N := 7) ?hd (cs := #[.slice none 0 0, .slice none 0 0]) (t := 80) ?hr ?_; (case hd => rfl); (case hg => rfl); (case hr => first | (go_simp; done) | (go_simp; rfl)); intro gb174 hg w73 hbox hb; have n0_ := Aside0.mk (Kd.R_below HO_5.out hb); have n1_ := Aside0.mk (Kd.R_below HO169.out hb); have n2_ := Aside0.mk (Kd.R_below HO172.out hb); have n3_ := Aside0.mk (blk_below (g := gb154) (o := .cells #[.slice A0_0 l0_0.length c0_0, .slice A0_1 l0_1.length c0_1] 80 (0, 0)) BK154.out hb); have n4_ := Aside0.mk (below_step HB.out hb); have n5_ := Aside0.mk (hbox); have n6_ := Aside0.mk ((by rw [hg]; exact (below_size HB.out) : w.heap.size ≤ gb174)); have n7_ := Aside0.mk ((by rw [hg]; exact (below_size HB.out) : w.heap.size ≤ gb174)); have n8_ := Aside0.mk ((by rw [hg]; exact Nat.ne_of_lt (blk_lt (g := gb154) (o := .cells #[.slice A0_0 l0_0.length c0_0, .slice A0_1 l0_1.length c0_1] 80 (0, 0)) BK154.out) : gb154 ≠ gb174)); have n9_ := Aside0.mk ((by rw [hg]; exact Nat.ne_of_gt (blk_lt (g := gb154) (o := .cells #[.slice A0_0 l0_0.length c0_0, .slice A0_1 l0_1.length c0_1] 80 (0, 0)) BK154.out) : gb174 ≠ gb154)); clear HO_5; clear HO169; clear HO172; clear BK154; clear HB; have HO_5 := n0_; have HO169 := n1_; have HO172 := n2_; have BK154 := n3_; have HB := n4_; have BK174 := n5_; have GW174 := n6_; have GE174 := n7_; have NB154_174 := n8_; have NB174_154 := n9_; clear n0_ n1_ n2_ n3_ n4_ n5_ n6_ n7_ n8_ n9_; clear hb hbox hg; obtain ⟨Ao74, co74, eo74⟩ := Kd.R_slice HO169.out; subst eo74; have hnb75 := NB174_154.out; have hnc75 := NB154_174.out; have hcz76_0 := (blk_cell BK174.out 0).trans rfl; have hcz76_1 := (blk_cell BK174.out 1).trans rfl; have hfz76_0 := blk_frozen BK174.out 0; have hfz76_1 := blk_frozen BK174.out 1; obtain ⟨Ao77, co77, eo77⟩ := Kd.R_slice HO172.out; subst eo77))
           have n0_ : Aside0 (Kd.R (Kd.int .u8) 5 ((w73.setCell ⟨gb174, 0, none⟩ (.slice Ao74 t167.length co74)).setCell ⟨gb174, 1, none⟩ (.slice Ao77 t170.length co77)) w.heap.size (fun _ => True) (.slice Ao71 t157.length co71) t157) := ⟨by (with_reducible repeat (first | apply Kd.R_alloc | apply Kd.R_drewN | apply Kd.R_drew)); exact Kd.R_mono (Kd.R_far (p := ⟨gb174, 1, none⟩) (Kd.R_far (p := ⟨gb174, 0, none⟩) (Kd.R_types HO_5.out BK174.out (by decide)) (fun _ hk => hk.2) (.slice Ao74 t167.length co74)) (fun _ hk => hk.2) (.slice Ao77 t170.length co77)) (fun _ hk => trivial)⟩; have n1_ : Aside0 (Kd.R k84 84 ((w73.setCell ⟨gb174, 0, none⟩ (.slice Ao74 t167.length co74)).setCell ⟨gb174, 1, none⟩ (.slice Ao77 t170.length co77)) w.heap.size (fun _ => True) (.slice Ao74 t167.length co74) t167) := ⟨by (with_reducible repeat (first | apply Kd.R_alloc | apply Kd.R_drewN | apply Kd.R_drew)); exact Kd.R_mono (Kd.R_far (p := ⟨gb174, 1, none⟩) (Kd.R_far (p := ⟨gb174, 0, none⟩) (Kd.R_types HO169.out BK174.out (by decide)) (fun _ hk => hk.2) (.slice Ao74 t167.length co74)) (fun _ hk => hk.2) (.slice Ao77 t170.length co77)) (fun _ hk => trivial)⟩; have n2_ : Aside0 (Kd.R k135 135 ((w73.setCell ⟨gb174, 0, none⟩ (.slice Ao74 t167.length co74)).setCell ⟨gb174, 1, none⟩ (.slice Ao77 t170.length co77)) w.heap.size (fun _ => True) (.slice Ao77 t170.length co77) t170) := ⟨by (with_reducible repeat (first | apply Kd.R_alloc | apply Kd.R_drewN | apply Kd.R_drew)); exact Kd.R_mono (Kd.R_far (p := ⟨gb174, 1, none⟩) (Kd.R_far (p := ⟨gb174, 0, none⟩) (Kd.R_types HO172.out BK174.out (by decide)) (fun _ hk => hk.2) (.slice Ao74 t167.length co74)) (fun _ hk => hk.2) (.slice Ao77 t170.length co77)) (fun _ hk => trivial)⟩; have n3_ : Aside0 (((w73.setCell ⟨gb174, 0, none⟩ (.slice Ao74 t167.length co74)).setCell ⟨gb174, 1, none⟩ (.slice Ao77 t170.length co77)).heap[gb154]? = some (.cells #[.slice A0_0 l0_0.length c0_0, .slice A0_1 l0_1.length c0_1] 80 (0, 0))) := ⟨by (with_reducible repeat (first | refine blk_drewN ?_ _ | refine blk_drew ?_ | refine blk_alloc ?_ _)); refine blk_far ?_ NB154_174.out _; (with_reducible repeat (first | refine blk_drewN ?_ _ | refine blk_drew ?_ | refine blk_alloc ?_ _)); refine blk_far ?_ NB154_174.out _; (with_reducible repeat (first | refine blk_drewN ?_ _ | refine blk_drew ?_ | refine blk_alloc ?_ _)); exact BK154.out⟩; have n4_ : Aside0 (((w73.setCell ⟨gb174, 0, none⟩ (.slice Ao74 t167.length co74)).setCell ⟨gb174, 1, none⟩ (.slice Ao77 t170.length co77)).heap[gb174]? = some (.cells #[.slice Ao74 t167.length co74, .slice Ao77 t170.length co77] 80 (0, 0))) := ⟨by (with_reducible repeat (first | refine blk_drewN ?_ _ | refine blk_drew ?_ | refine blk_alloc ?_ _)); refine blk_put (cs := #[.slice Ao74 t167.length co74, .slice none 0 0]) ?_ 1 _ rfl; (with_reducible repeat (first | refine blk_drewN ?_ _ | refine blk_drew ?_ | refine blk_alloc ?_ _)); refine blk_put (cs := #[.slice none 0 0, .slice none 0 0]) ?_ 0 _ rfl; (with_reducible repeat (first | refine blk_drewN ?_ _ | refine blk_drew ?_ | refine blk_alloc ?_ _)); exact BK174.out⟩; have n5_ : Aside0 (Below w.heap.size w ((w73.setCell ⟨gb174, 0, none⟩ (.slice Ao74 t167.length co74)).setCell ⟨gb174, 1, none⟩ (.slice Ao77 t170.length co77))) := ⟨by repeat (first | (with_reducible first | exact HB.out | apply below_alloc | apply pw_below_drewN | apply below_drew1 | refine below_set ?_ GE154.out | refine below_set ?_ GE174.out) | exact HB.out)⟩; (try clear HO_5); (try clear HO169); (try clear HO172); (try clear BK154); (try clear BK174); (try clear HB); generalize ((w73.setCell ⟨gb174, 0, none⟩ (.slice Ao74 t167.length co74)).setCell ⟨gb174, 1, none⟩ (.slice Ao77 t170.length co77)) = w78 at n0_ n1_ n2_ n3_ n4_ n5_ ⊢; have HO_5 := n0_; have HO169 := n1_; have HO172 := n2_; have BK154 := n3_; have BK174 := n4_; have HB := n5_; clear n0_ n1_ n2_ n3_ n4_ n5_; have n0_ := Aside0.mk (Kd.R_drew HO_5.out); have n1_ := Aside0.mk (Kd.R_drew HO169.out); have n2_ := Aside0.mk (Kd.R_drew HO172.out); have n3_ := Aside0.mk (blk_drew BK154.out); have n4_ := Aside0.mk (blk_drew BK174.out); have n5_ := Aside0.mk (below_drew1 HB.out); clear HO_5; clear HO169; clear HO172; clear BK154; clear BK174; clear HB; have HO_5 := n0_; have HO169 := n1_; have HO172 := n2_; have BK154 := n3_; have BK174 := n4_; have HB := n5_; clear n0_ n1_ n2_ n3_ n4_ n5_; refine start_ (n := 22) (S := fun w' => w'.cell? ⟨gb154, 0, none⟩ = some (.slice A0_0 l0_0.length c0_0) ∧ w'.cell? ⟨gb154, 1, none⟩ = some (.slice A0_1 l0_1.length c0_1) ∧ (convert 52 9 (.slice Ao71 t157.length co71)).run Try.prog w' = .ok (.string (strOfNums t157)) w') (ds := []) #[false, false, false, false, false, false, false, false, false, false, false, false, false, false, false, false, false, false, false, false, false, false] (by kernel_rfl) rfl rfl ⟨(blk_cell BK154.out 0).trans rfl, (blk_cell BK154.out 1).trans rfl, (own_string (P := Try.prog) Try.underlying52 Try.underlying5 Try.underlying9 (Kd.own_of_R (Kd.R_drew HO_5.out)))⟩ (fun hHeld => ?_); refine with_tabW rowlocklaw12_SchemaPuts.tab9 rowlocklaw12_SchemaPuts.bits9 (fun HT_ HW_ => ?_); generalize w78.drew = w79 at HO_5 HO169 HO172 BK154 BK174 HB hHeld ⊢; refine one_ (i := 0) (N := some 52) (bs 22 1) rfl rfl (one_of HT_.out (by kernel_rfl)) (by decide) (fun K hK => ?_); refine goes_ Try.func27 (by kernel_rfl) rfl #[] (by rfl) rfl rfl (by (try simp only [List.map_toArray, List.map_cons, List.map_nil]); first | done | rfl) ?_
           with_reducible refine (rowlocklaw12_fixed.calls  true _ A31.out).mono ?_
           rintro e w80 ⟨rfl, hb⟩
           refine ⟨_, rfl, ?_⟩
           have n0_ := Aside0.mk (Kd.R_below (by (with_reducible repeat (first | apply Kd.R_alloc | apply Kd.R_drewN | apply Kd.R_drew)); exact HO_5.out) hb); have n1_ := Aside0.mk (Kd.R_below (by (with_reducible repeat (first | apply Kd.R_alloc | apply Kd.R_drewN | apply Kd.R_drew)); exact HO169.out) hb); have n2_ := Aside0.mk (Kd.R_below (by (with_reducible repeat (first | apply Kd.R_alloc | apply Kd.R_drewN | apply Kd.R_drew)); exact HO172.out) hb); have n3_ := Aside0.mk (blk_below (g := gb154) (o := .cells #[.slice A0_0 l0_0.length c0_0, .slice A0_1 l0_1.length c0_1] 80 (0, 0)) (by (with_reducible repeat (first | refine blk_drewN ?_ _ | refine blk_drew ?_ | refine blk_alloc ?_ _)); exact BK154.out) hb); have n4_ := Aside0.mk (blk_below (g := gb174) (o := .cells #[.slice Ao74 t167.length co74, .slice Ao77 t170.length co77] 80 (0, 0)) (by (with_reducible repeat (first | refine blk_drewN ?_ _ | refine blk_drew ?_ | refine blk_alloc ?_ _)); exact BK174.out) hb); have n5_ := Aside0.mk (below_step (by repeat (first | (with_reducible first | exact HB.out | apply below_alloc | apply pw_below_drewN | apply below_drew1 | refine below_set ?_ GE154.out | refine below_set ?_ GE174.out) | exact HB.out)) hb)
           clear HO_5
           clear HO169
           clear HO172
           clear BK154
           clear BK174
           clear HB
           have HO_5 := n0_
           have HO169 := n1_
           have HO172 := n2_
           have BK154 := n3_
           have BK174 := n4_
           have HB := n5_
           clear n0_ n1_ n2_ n3_ n4_ n5_
           (try clear hb)
           (try clear hb2)
           (try clear hk)
           (try clear hi)
           have hcv81 := own_string (P := Try.prog) Try.underlying52 Try.underlying5 Try.underlying9 (Kd.own_of_R HO_5.out)
           refine hK.out _ _ ⟨(blk_cell BK154.out 0).trans rfl, (blk_cell BK154.out 1).trans rfl, (own_string (P := Try.prog) Try.underlying52 Try.underlying5 Try.underlying9 (Kd.own_of_R HO_5.out))⟩ (fun hHeld => ?_)
           clear hK K
           refine norm_ (a' := ?_) ?_ ?_
           rotate_left
           ·show Act.put _ (some 52) _ = _
            simp only [Act.put, List.setIfInBounds_toArray, List.set_cons_zero, List.set_cons_succ, i64_w, i32_w]
            rfl
           refine pure_ (i := 1) (N := some 53) (v := ?_) (a' := ?_) (bs 22 3) rfl rfl (any_of HT_.out (by kernel_rfl)) (fun _ _ _ h => h) (Or.inl ⟨by rfl, ?_⟩) ?_ ?_; rotate_left
           ·intro w'
            go_simp
            with_reducible rfl
           rotate_left
           ·simp only [Act.put, List.setIfInBounds_toArray, List.set_cons_zero, List.set_cons_succ, i64_w, i32_w]
            rfl
           refine pure_ (i := 2) (N := some 54) (v := ?_) (a' := ?_) (bs 22 7) rfl rfl (any_of HT_.out (by kernel_rfl)) (fun _ _ _ h => h) (Or.inl ⟨by rfl, ?_⟩) ?_ ?_; rotate_left
           ·intro w'
            go_simp
            with_reducible rfl
           rotate_left
           ·simp only [Act.put, List.setIfInBounds_toArray, List.set_cons_zero, List.set_cons_succ, i64_w, i32_w]
            rfl
           refine pure_ (i := 3) (N := some 55) (v := ?_) (a' := ?_) (bs 22 15) rfl rfl (any_of HT_.out (by kernel_rfl)) (fun _ _ _ h => h) (Or.inl ⟨by rfl, ?_⟩) ?_ ?_; rotate_left
           ·intro w'
            go_simp
            with_reducible rfl
           rotate_left
           ·simp only [Act.put, List.setIfInBounds_toArray, List.set_cons_zero, List.set_cons_succ, i64_w, i32_w]
            rfl
           refine pure_ (i := 4) (N := some 56) (v := ?_) (a' := ?_) (bs 22 31) rfl rfl (any_of HT_.out (by kernel_rfl)) (fun _ _ _ h => h) (Or.inl ⟨by rfl, ?_⟩) ?_ ?_; rotate_left
           ·intro w'
            go_simp
            with_reducible rfl
           rotate_left
           ·simp only [Act.put, List.setIfInBounds_toArray, List.set_cons_zero, List.set_cons_succ, i64_w, i32_w]
            rfl
           refine pure_ (i := 5) (N := some 57) (v := ?_) (a' := ?_) (bs 22 63) rfl rfl (any_of HT_.out (by kernel_rfl)) (fun _ _ _ h => h) (Or.inl ⟨by rfl, ?_⟩) ?_ ?_; rotate_left
           ·intro w'
            go_simp
            with_reducible rfl
           rotate_left
           ·simp only [Act.put, List.setIfInBounds_toArray, List.set_cons_zero, List.set_cons_succ, i64_w, i32_w]
            rfl
           refine pure_ (i := 6) (N := some 58) (v := ?_) (a' := ?_) (bs 22 127) rfl rfl (any_of HT_.out (by kernel_rfl)) (fun _ _ _ h => h) (Or.inl ⟨by rfl, ?_⟩) ?_ ?_; rotate_left
           ·intro w'
            go_simp
            with_reducible rfl
           rotate_left
           ·simp only [Act.put, List.setIfInBounds_toArray, List.set_cons_zero, List.set_cons_succ, i64_w, i32_w]
            rfl
           refine take_ (i := 7) (N := some 59) (v := ?_) (a' := ?_) (bs 22 255) rfl rfl (take_ofW HT_.out HW_.out (by kernel_rfl)) (fun _ _ _ h => h) (Or.inl ⟨by rfl, ?_⟩) hHeld ?_ ?_; rotate_left
           ·rintro w' ⟨_, _, s99⟩
            go_simp
            with_reducible rfl
           rotate_left
           ·simp only [Act.put, List.setIfInBounds_toArray, List.set_cons_zero, List.set_cons_succ, i64_w, i32_w]
            rfl
           refine take_ (i := 8) (N := some 60) (v := ?_) (a' := ?_) (bs 22 511) rfl rfl (take_ofW HT_.out HW_.out (by kernel_rfl)) (fun _ _ _ h => h) (Or.inl ⟨by rfl, ?_⟩) hHeld ?_ ?_; rotate_left
           ·rintro w' ⟨s0, s1, s99⟩
            go_simp
            with_reducible rfl
           rotate_left
           ·simp only [Act.put, List.setIfInBounds_toArray, List.set_cons_zero, List.set_cons_succ, i64_w, i32_w]
            rfl
           refine one_ (i := 9) (N := some 61) (bs 22 1023) rfl rfl (one_of HT_.out (by kernel_rfl)) (by decide) (fun K hK => ?_); refine goes_ Try.func32 (by kernel_rfl) rfl #[.agg #[.slice A0_0 l0_0.length c0_0, .slice A0_1 l0_1.length c0_1]] (by rfl) rfl rfl (by (try simp only [List.map_toArray, List.map_cons, List.map_nil]); first | done | rfl) ?_
           with_reducible refine (rowlockref12_Put.calls kj14 _ _ l0_0 _ _ l0_1 t176 _ ?side1 ?side2 ?side3 ?side4 A34.out).mono ?_
           (case side1 => repeat (first | exact (Kd.C_below HR0_0.out HB.out) | (with_reducible refine Kd.C_alloc ?_ _) | (with_reducible refine Kd.C_drewN ?_ _) | (with_reducible refine Kd.C_drew ?_)))
           (case side2 => exact HC0_0.out)
           (case side3 => repeat (first | exact (Kd.C_below HR0_1.out HB.out) | (with_reducible refine Kd.C_alloc ?_ _) | (with_reducible refine Kd.C_drewN ?_ _) | (with_reducible refine Kd.C_drew ?_)))
           (case side4 => exact HC0_1.out)
           rintro e w82 ⟨rfl, hb⟩
           refine ⟨_, rfl, ?_⟩
           have n0_ := Aside0.mk (Kd.R_below (by (with_reducible repeat (first | apply Kd.R_alloc | apply Kd.R_drewN | apply Kd.R_drew)); exact HO_5.out) hb); have n1_ := Aside0.mk (Kd.R_below (by (with_reducible repeat (first | apply Kd.R_alloc | apply Kd.R_drewN | apply Kd.R_drew)); exact HO169.out) hb); have n2_ := Aside0.mk (Kd.R_below (by (with_reducible repeat (first | apply Kd.R_alloc | apply Kd.R_drewN | apply Kd.R_drew)); exact HO172.out) hb); have n3_ := Aside0.mk (blk_below (g := gb154) (o := .cells #[.slice A0_0 l0_0.length c0_0, .slice A0_1 l0_1.length c0_1] 80 (0, 0)) (by (with_reducible repeat (first | refine blk_drewN ?_ _ | refine blk_drew ?_ | refine blk_alloc ?_ _)); exact BK154.out) hb); have n4_ := Aside0.mk (blk_below (g := gb174) (o := .cells #[.slice Ao74 t167.length co74, .slice Ao77 t170.length co77] 80 (0, 0)) (by (with_reducible repeat (first | refine blk_drewN ?_ _ | refine blk_drew ?_ | refine blk_alloc ?_ _)); exact BK174.out) hb); have n5_ := Aside0.mk (below_step (by repeat (first | (with_reducible first | exact HB.out | apply below_alloc | apply pw_below_drewN | apply below_drew1 | refine below_set ?_ GE154.out | refine below_set ?_ GE174.out) | exact HB.out)) hb)
           clear HO_5
           clear HO169
           clear HO172
           clear BK154
           clear BK174
           clear HB
           have HO_5 := n0_
           have HO169 := n1_
           have HO172 := n2_
           have BK154 := n3_
           have BK174 := n4_
           have HB := n5_
           clear n0_ n1_ n2_ n3_ n4_ n5_
           (try clear hb)
           (try clear hb2)
           (try clear hk)
           (try clear hi)
           refine hK.out _ _ ⟨(blk_cell BK154.out 0).trans rfl, (blk_cell BK154.out 1).trans rfl, (own_string (P := Try.prog) Try.underlying52 Try.underlying5 Try.underlying9 (Kd.own_of_R HO_5.out))⟩ (fun hHeld => ?_)
           clear hK K
           refine norm_ (a' := ?_) ?_ ?_
           rotate_left
           ·show Act.put _ (some 61) _ = _
            simp only [Act.put, List.setIfInBounds_toArray, List.set_cons_zero, List.set_cons_succ, i64_w, i32_w]
            rfl
           refine pure_ (i := 10) (N := some 62) (v := ?_) (a' := ?_) (bs 22 2047) rfl rfl (any_of HT_.out (by kernel_rfl)) (fun _ _ _ h => h) (Or.inl ⟨by rfl, ?_⟩) ?_ ?_; rotate_left
           ·intro w'
            go_simp
            with_reducible rfl
           rotate_left
           ·simp only [Act.put, List.setIfInBounds_toArray, List.set_cons_zero, List.set_cons_succ, i64_w, i32_w]
            rfl
           refine pure_ (i := 11) (N := some 63) (v := ?_) (a' := ?_) (bs 22 4095) rfl rfl (any_of HT_.out (by kernel_rfl)) (fun _ _ _ h => h) (Or.inl ⟨by rfl, ?_⟩) ?_ ?_; rotate_left
           ·intro w'
            go_simp
            with_reducible rfl
           rotate_left
           ·simp only [Act.put, List.setIfInBounds_toArray, List.set_cons_zero, List.set_cons_succ, i64_w, i32_w]
            rfl
           refine pure_ (i := 12) (N := some 64) (v := ?_) (a' := ?_) (bs 22 8191) rfl rfl (any_of HT_.out (by kernel_rfl)) (fun _ _ _ h => h) (Or.inl ⟨by rfl, ?_⟩) ?_ ?_; rotate_left
           ·intro w'
            go_simp
            with_reducible rfl
           rotate_left
           ·simp only [Act.put, List.setIfInBounds_toArray, List.set_cons_zero, List.set_cons_succ, i64_w, i32_w]
            rfl
           refine pure_ (i := 13) (N := some 65) (v := undef) (a' := ?_) (bs 22 16383) rfl rfl (any_of HT_.out (by kernel_rfl)) (fun _ _ _ h => h) (Or.inr ⟨by rfl, rfl⟩) ?_ ?_; rotate_left
           ·simp only [Act.put, List.setIfInBounds_toArray, List.set_cons_zero, List.set_cons_succ, i64_w, i32_w]
            rfl
           refine pure_ (i := 14) (N := some 66) (v := undef) (a' := ?_) (bs 22 32767) rfl rfl (any_of HT_.out (by kernel_rfl)) (fun _ _ _ h => h) (Or.inr ⟨by rfl, rfl⟩) ?_ ?_; rotate_left
           ·simp only [Act.put, List.setIfInBounds_toArray, List.set_cons_zero, List.set_cons_succ, i64_w, i32_w]
            rfl
           refine pure_ (i := 15) (N := some 67) (v := ?_) (a' := ?_) (bs 22 65535) rfl rfl (any_of HT_.out (by kernel_rfl)) (fun _ _ _ h => h) (Or.inl ⟨by rfl, ?_⟩) ?_ ?_; rotate_left
           ·intro w'
            go_simp
            with_reducible rfl
           rotate_left
           ·simp only [Act.put, List.setIfInBounds_toArray, List.set_cons_zero, List.set_cons_succ, i64_w, i32_w]
            rfl
           refine pure_ (i := 16) (N := some 68) (v := ?_) (a' := ?_) (bs 22 131071) rfl rfl (any_of HT_.out (by kernel_rfl)) (fun _ _ _ h => h) (Or.inl ⟨by rfl, ?_⟩) ?_ ?_; rotate_left
           ·intro w'
            go_simp
            with_reducible rfl
           rotate_left
           ·simp only [Act.put, List.setIfInBounds_toArray, List.set_cons_zero, List.set_cons_succ, i64_w, i32_w]
            rfl
           refine pure_ (i := 17) (N := some 69) (v := undef) (a' := ?_) (bs 22 262143) rfl rfl (any_of HT_.out (by kernel_rfl)) (fun _ _ _ h => h) (Or.inr ⟨by rfl, rfl⟩) ?_ ?_; rotate_left
           ·simp only [Act.put, List.setIfInBounds_toArray, List.set_cons_zero, List.set_cons_succ, i64_w, i32_w]
            rfl
           refine pure_ (i := 18) (N := some 70) (v := undef) (a' := ?_) (bs 22 524287) rfl rfl (any_of HT_.out (by kernel_rfl)) (fun _ _ _ h => h) (Or.inr ⟨by rfl, rfl⟩) ?_ ?_; rotate_left
           ·simp only [Act.put, List.setIfInBounds_toArray, List.set_cons_zero, List.set_cons_succ, i64_w, i32_w]
            rfl
           refine pure_ (i := 19) (N := some 71) (v := undef) (a' := ?_) (bs 22 1048575) rfl rfl (any_of HT_.out (by kernel_rfl)) (fun _ _ _ h => h) (Or.inr ⟨by rfl, rfl⟩) ?_ ?_; rotate_left
           ·simp only [Act.put, List.setIfInBounds_toArray, List.set_cons_zero, List.set_cons_succ, i64_w, i32_w]
            rfl
           refine pure_ (i := 20) (N := some 72) (v := ?_) (a' := ?_) (bs 22 2097151) rfl rfl (any_of HT_.out (by kernel_rfl)) (fun _ _ _ h => h) (Or.inl ⟨by rfl, ?_⟩) ?_ ?_; rotate_left
           ·intro w'
            go_simp
            with_reducible rfl
           rotate_left
           ·simp only [Act.put, List.setIfInBounds_toArray, List.set_cons_zero, List.set_cons_succ, i64_w, i32_w]
            rfl
           refine pure_ (i := 21) (N := some 4) (v := ?_) (a' := ?_) (bs 22 4194303) rfl rfl (any_of HT_.out (by kernel_rfl)) (fun _ _ _ h => h) (Or.inl ⟨by rfl, ?_⟩) ?_ ?_; rotate_left
           ·intro w'
            go_simp
            with_reducible rfl
           rotate_left
           ·simp only [Act.put, List.setIfInBounds_toArray, List.set_cons_zero, List.set_cons_succ, i64_w, i32_w]
            rfl
           refine done_ (done_of HT_.out (by kernel_rfl)) ?_
           try go_wp2
           go_ret
           exact ⟨by first | rfl | (simp [errW_none, errW_some] <;> rfl) | (simp [*, errW_none, errW_some] <;> rfl), by repeat (first | (with_reducible first | exact HB.out | apply below_alloc | apply pw_below_drewN | apply below_drew1 | refine below_set ?_ GE154.out | refine below_set ?_ GE174.out) | exact HB.out)⟩
         ·rw [if_neg c33] at H
          have c33b0 : (t160 == 0) = false := beq_eq_false_iff_ne.mpr c33; have c33b1 : (t160 != 0) = true := bne_iff_ne.mpr c33; obtain rfl := Option.some.inj H; have hcz84_0 := (blk_cell BK154.out 0).trans rfl; have hcz84_1 := (blk_cell BK154.out 1).trans rfl; have hfz84_0 := blk_frozen BK154.out 0; have hfz84_1 := blk_frozen BK154.out 1
          try go_wp2_with (first | ((with_reducible refine gate_callee (f := 30) rfl ?_); refine goesL_ (some 35) rfl rfl Try.func30 (by kernel_rfl) rfl #[.agg #[.slice A0_0 l0_0.length c0_0, .slice A0_1 l0_1.length c0_1]] rfl (by (try simp only [List.map_toArray, List.map_cons, List.map_nil]); first | done | rfl) ?_; (with_reducible refine (rowlockref12_May.calls kj14 _ _ l0_0 _ _ l0_1 true _ ?side1 ?side2 ?side3 ?side4 A28.out).mono ?_); (case side1 => repeat (first | exact (Kd.C_below HR0_0.out HB.out) | (with_reducible refine Kd.C_alloc ?_ _) | (with_reducible refine Kd.C_drewN ?_ _) | (with_reducible refine Kd.C_drew ?_))); (case side2 => exact HC0_0.out); (case side3 => repeat (first | exact (Kd.C_below HR0_1.out HB.out) | (with_reducible refine Kd.C_alloc ?_ _) | (with_reducible refine Kd.C_drewN ?_ _) | (with_reducible refine Kd.C_drew ?_))); (case side4 => exact HC0_1.out); rintro e w85 ⟨rfl, hb⟩; refine ⟨_, rfl, ?_⟩; have n0_ := Aside0.mk (Kd.R_below HO_5.out hb); have n1_ := Aside0.mk (blk_below (g := gb154) (o := .cells #[.slice A0_0 l0_0.length c0_0, .slice A0_1 l0_1.length c0_1] 80 (0, 0)) BK154.out hb); have n2_ := Aside0.mk (below_step HB.out hb); clear HO_5; clear BK154; clear HB; have HO_5 := n0_; have BK154 := n1_; have HB := n2_; clear n0_ n1_ n2_; (try clear hb); (try clear hb2); (try clear hk); (try clear hi); obtain ⟨Ao86, co86, eo86⟩ := Kd.R_slice HO_5.out; subst eo86) | ((with_reducible refine gate_callee (f := 37) rfl ?_); refine goesL_ (some 49) rfl rfl Try.func37 (by kernel_rfl) rfl #[.slice Ao86 t157.length co86] rfl (by (try simp only [List.map_toArray, List.map_cons, List.map_nil]); first | done | rfl) ?_; (with_reducible refine (schema_Get.calls kj14 _ _ t157 t167 t170 t173 _ ?side1 ?side2 A30.out).mono ?_); (case side1 => repeat (first | exact (Kd.R_reads' HO_5.out).2.2 | (with_reducible refine Kd.C_alloc ?_ _) | (with_reducible refine Kd.C_drewN ?_ _) | (with_reducible refine Kd.C_drew ?_))); (case side2 => exact (Kd.R_reads' HO_5.out).2.1); rintro e w87 ⟨v168, v171, rfl, ho0, ho1, hb⟩; refine ⟨_, rfl, ?_⟩; have n0_ := Aside0.mk (Kd.R_below HO_5.out hb); have n1_ := Aside0.mk (Kd.R_lower ho0 (below_size HB.out)); have n2_ := Aside0.mk (Kd.R_lower ho1 (below_size HB.out)); have n3_ := Aside0.mk (blk_below (g := gb154) (o := .cells #[.slice A0_0 l0_0.length c0_0, .slice A0_1 l0_1.length c0_1] 80 (0, 0)) BK154.out hb); have n4_ := Aside0.mk (below_step HB.out hb); clear HO_5; clear BK154; clear HB; have HO_5 := n0_; have HO169 := n1_; have HO172 := n2_; have BK154 := n3_; have HB := n4_; clear n0_ n1_ n2_ n3_ n4_; (try clear hb); (try clear hb2); (try clear hk); (try clear hi); (try clear ho0); (try clear ho1)) | ((with_reducible refine gate_dst (N := 7) rfl ?_); (try (refine gate_guard (by rfl) ?_; dsimp only)); refine box_event ?hg (N := 7) ?hd (cs := #[.slice none 0 0, .slice none 0 0]) (t := 80) ?hr ?_; (case hd => rfl); (case hg => rfl); (case hr => first | (go_simp; done) | (go_simp; rfl)); intro gb174 hg w88 hbox hb; have n0_ := Aside0.mk (Kd.R_below HO_5.out hb); have n1_ := Aside0.mk (Kd.R_below HO169.out hb); have n2_ := Aside0.mk (Kd.R_below HO172.out hb); have n3_ := Aside0.mk (blk_below (g := gb154) (o := .cells #[.slice A0_0 l0_0.length c0_0, .slice A0_1 l0_1.length c0_1] 80 (0, 0)) BK154.out hb); have n4_ := Aside0.mk (below_step HB.out hb); have n5_ := Aside0.mk (hbox); have n6_ := Aside0.mk ((by rw [hg]; exact (below_size HB.out) : w.heap.size ≤ gb174)); have n7_ := Aside0.mk ((by rw [hg]; exact (below_size HB.out) : w.heap.size ≤ gb174)); have n8_ := Aside0.mk ((by rw [hg]; exact Nat.ne_of_lt (blk_lt (g := gb154) (o := .cells #[.slice A0_0 l0_0.length c0_0, .slice A0_1 l0_1.length c0_1] 80 (0, 0)) BK154.out) : gb154 ≠ gb174)); have n9_ := Aside0.mk ((by rw [hg]; exact Nat.ne_of_gt (blk_lt (g := gb154) (o := .cells #[.slice A0_0 l0_0.length c0_0, .slice A0_1 l0_1.length c0_1] 80 (0, 0)) BK154.out) : gb174 ≠ gb154)); clear HO_5; clear HO169; clear HO172; clear BK154; clear HB; have HO_5 := n0_; have HO169 := n1_; have HO172 := n2_; have BK154 := n3_; have HB := n4_; have BK174 := n5_; have GW174 := n6_; have GE174 := n7_; have NB154_174 := n8_; have NB174_154 := n9_; clear n0_ n1_ n2_ n3_ n4_ n5_ n6_ n7_ n8_ n9_; clear hb hbox hg; obtain ⟨Ao89, co89, eo89⟩ := Kd.R_slice HO169.out; subst eo89; have hnb90 := NB174_154.out; have hnc90 := NB154_174.out; have hcz91_0 := (blk_cell BK174.out 0).trans rfl; have hcz91_1 := (blk_cell BK174.out 1).trans rfl; have hfz91_0 := blk_frozen BK174.out 0; have hfz91_1 := blk_frozen BK174.out 1; obtain ⟨Ao92, co92, eo92⟩ := Kd.R_slice HO172.out; subst eo92))
          have n0_ : Aside0 (Kd.R (Kd.int .u8) 5 ((w88.setCell ⟨gb174, 0, none⟩ (.slice Ao89 t167.length co89)).setCell ⟨gb174, 1, none⟩ (.slice Ao92 t170.length co92)) w.heap.size (fun _ => True) (.slice Ao86 t157.length co86) t157) := ⟨by (with_reducible repeat (first | apply Kd.R_alloc | apply Kd.R_drewN | apply Kd.R_drew)); exact Kd.R_mono (Kd.R_far (p := ⟨gb174, 1, none⟩) (Kd.R_far (p := ⟨gb174, 0, none⟩) (Kd.R_types HO_5.out BK174.out (by decide)) (fun _ hk => hk.2) (.slice Ao89 t167.length co89)) (fun _ hk => hk.2) (.slice Ao92 t170.length co92)) (fun _ hk => trivial)⟩; have n1_ : Aside0 (Kd.R k84 84 ((w88.setCell ⟨gb174, 0, none⟩ (.slice Ao89 t167.length co89)).setCell ⟨gb174, 1, none⟩ (.slice Ao92 t170.length co92)) w.heap.size (fun _ => True) (.slice Ao89 t167.length co89) t167) := ⟨by (with_reducible repeat (first | apply Kd.R_alloc | apply Kd.R_drewN | apply Kd.R_drew)); exact Kd.R_mono (Kd.R_far (p := ⟨gb174, 1, none⟩) (Kd.R_far (p := ⟨gb174, 0, none⟩) (Kd.R_types HO169.out BK174.out (by decide)) (fun _ hk => hk.2) (.slice Ao89 t167.length co89)) (fun _ hk => hk.2) (.slice Ao92 t170.length co92)) (fun _ hk => trivial)⟩; have n2_ : Aside0 (Kd.R k135 135 ((w88.setCell ⟨gb174, 0, none⟩ (.slice Ao89 t167.length co89)).setCell ⟨gb174, 1, none⟩ (.slice Ao92 t170.length co92)) w.heap.size (fun _ => True) (.slice Ao92 t170.length co92) t170) := ⟨by (with_reducible repeat (first | apply Kd.R_alloc | apply Kd.R_drewN | apply Kd.R_drew)); exact Kd.R_mono (Kd.R_far (p := ⟨gb174, 1, none⟩) (Kd.R_far (p := ⟨gb174, 0, none⟩) (Kd.R_types HO172.out BK174.out (by decide)) (fun _ hk => hk.2) (.slice Ao89 t167.length co89)) (fun _ hk => hk.2) (.slice Ao92 t170.length co92)) (fun _ hk => trivial)⟩; have n3_ : Aside0 (((w88.setCell ⟨gb174, 0, none⟩ (.slice Ao89 t167.length co89)).setCell ⟨gb174, 1, none⟩ (.slice Ao92 t170.length co92)).heap[gb154]? = some (.cells #[.slice A0_0 l0_0.length c0_0, .slice A0_1 l0_1.length c0_1] 80 (0, 0))) := ⟨by (with_reducible repeat (first | refine blk_drewN ?_ _ | refine blk_drew ?_ | refine blk_alloc ?_ _)); refine blk_far ?_ NB154_174.out _; (with_reducible repeat (first | refine blk_drewN ?_ _ | refine blk_drew ?_ | refine blk_alloc ?_ _)); refine blk_far ?_ NB154_174.out _; (with_reducible repeat (first | refine blk_drewN ?_ _ | refine blk_drew ?_ | refine blk_alloc ?_ _)); exact BK154.out⟩; have n4_ : Aside0 (((w88.setCell ⟨gb174, 0, none⟩ (.slice Ao89 t167.length co89)).setCell ⟨gb174, 1, none⟩ (.slice Ao92 t170.length co92)).heap[gb174]? = some (.cells #[.slice Ao89 t167.length co89, .slice Ao92 t170.length co92] 80 (0, 0))) := ⟨by (with_reducible repeat (first | refine blk_drewN ?_ _ | refine blk_drew ?_ | refine blk_alloc ?_ _)); refine blk_put (cs := #[.slice Ao89 t167.length co89, .slice none 0 0]) ?_ 1 _ rfl; (with_reducible repeat (first | refine blk_drewN ?_ _ | refine blk_drew ?_ | refine blk_alloc ?_ _)); refine blk_put (cs := #[.slice none 0 0, .slice none 0 0]) ?_ 0 _ rfl; (with_reducible repeat (first | refine blk_drewN ?_ _ | refine blk_drew ?_ | refine blk_alloc ?_ _)); exact BK174.out⟩; have n5_ : Aside0 (Below w.heap.size w ((w88.setCell ⟨gb174, 0, none⟩ (.slice Ao89 t167.length co89)).setCell ⟨gb174, 1, none⟩ (.slice Ao92 t170.length co92))) := ⟨by repeat (first | (with_reducible first | exact HB.out | apply below_alloc | apply pw_below_drewN | apply below_drew1 | refine below_set ?_ GE154.out | refine below_set ?_ GE174.out) | exact HB.out)⟩; (try clear HO_5); (try clear HO169); (try clear HO172); (try clear BK154); (try clear BK174); (try clear HB); generalize ((w88.setCell ⟨gb174, 0, none⟩ (.slice Ao89 t167.length co89)).setCell ⟨gb174, 1, none⟩ (.slice Ao92 t170.length co92)) = w93 at n0_ n1_ n2_ n3_ n4_ n5_ ⊢; have HO_5 := n0_; have HO169 := n1_; have HO172 := n2_; have BK154 := n3_; have BK174 := n4_; have HB := n5_; clear n0_ n1_ n2_ n3_ n4_ n5_; have n0_ := Aside0.mk (Kd.R_drew HO_5.out); have n1_ := Aside0.mk (Kd.R_drew HO169.out); have n2_ := Aside0.mk (Kd.R_drew HO172.out); have n3_ := Aside0.mk (blk_drew BK154.out); have n4_ := Aside0.mk (blk_drew BK174.out); have n5_ := Aside0.mk (below_drew1 HB.out); clear HO_5; clear HO169; clear HO172; clear BK154; clear BK174; clear HB; have HO_5 := n0_; have HO169 := n1_; have HO172 := n2_; have BK154 := n3_; have BK174 := n4_; have HB := n5_; clear n0_ n1_ n2_ n3_ n4_ n5_; refine start_ (n := 22) (S := fun w' => (convert 52 9 (.slice Ao86 t157.length co86)).run Try.prog w' = .ok (.string (strOfNums t157)) w') (ds := []) #[false, false, false, false, false, false, false, false, false, false, false, false, false, false, false, false, false, false, false, false, false, false] (by kernel_rfl) rfl rfl (own_string (P := Try.prog) Try.underlying52 Try.underlying5 Try.underlying9 (Kd.own_of_R (Kd.R_drew HO_5.out))) (fun hHeld => ?_); refine with_tabW rowlocklaw12_SchemaPuts.tab9 rowlocklaw12_SchemaPuts.bits9 (fun HT_ HW_ => ?_); generalize w93.drew = w94 at HO_5 HO169 HO172 BK154 BK174 HB hHeld ⊢; refine one_ (i := 0) (N := some 52) (bs 22 1) rfl rfl (one_of HT_.out (by kernel_rfl)) (by decide) (fun K hK => ?_); refine goes_ Try.func27 (by kernel_rfl) rfl #[] (by rfl) rfl rfl (by (try simp only [List.map_toArray, List.map_cons, List.map_nil]); first | done | rfl) ?_
          with_reducible refine (rowlocklaw12_fixed.calls  true _ A31.out).mono ?_
          rintro e w95 ⟨rfl, hb⟩
          refine ⟨_, rfl, ?_⟩
          have n0_ := Aside0.mk (Kd.R_below (by (with_reducible repeat (first | apply Kd.R_alloc | apply Kd.R_drewN | apply Kd.R_drew)); exact HO_5.out) hb); have n1_ := Aside0.mk (Kd.R_below (by (with_reducible repeat (first | apply Kd.R_alloc | apply Kd.R_drewN | apply Kd.R_drew)); exact HO169.out) hb); have n2_ := Aside0.mk (Kd.R_below (by (with_reducible repeat (first | apply Kd.R_alloc | apply Kd.R_drewN | apply Kd.R_drew)); exact HO172.out) hb); have n3_ := Aside0.mk (blk_below (g := gb154) (o := .cells #[.slice A0_0 l0_0.length c0_0, .slice A0_1 l0_1.length c0_1] 80 (0, 0)) (by (with_reducible repeat (first | refine blk_drewN ?_ _ | refine blk_drew ?_ | refine blk_alloc ?_ _)); exact BK154.out) hb); have n4_ := Aside0.mk (blk_below (g := gb174) (o := .cells #[.slice Ao89 t167.length co89, .slice Ao92 t170.length co92] 80 (0, 0)) (by (with_reducible repeat (first | refine blk_drewN ?_ _ | refine blk_drew ?_ | refine blk_alloc ?_ _)); exact BK174.out) hb); have n5_ := Aside0.mk (below_step (by repeat (first | (with_reducible first | exact HB.out | apply below_alloc | apply pw_below_drewN | apply below_drew1 | refine below_set ?_ GE154.out | refine below_set ?_ GE174.out) | exact HB.out)) hb)
          clear HO_5
          clear HO169
          clear HO172
          clear BK154
          clear BK174
          clear HB
          have HO_5 := n0_
          have HO169 := n1_
          have HO172 := n2_
          have BK154 := n3_
          have BK174 := n4_
          have HB := n5_
          clear n0_ n1_ n2_ n3_ n4_ n5_
          (try clear hb)
          (try clear hb2)
          (try clear hk)
          (try clear hi)
          refine hK.out _ _ (own_string (P := Try.prog) Try.underlying52 Try.underlying5 Try.underlying9 (Kd.own_of_R HO_5.out)) (fun hHeld => ?_)
          clear hK K
          refine norm_ (a' := ?_) ?_ ?_
          rotate_left
          ·show Act.put _ (some 52) _ = _
           simp only [Act.put, List.setIfInBounds_toArray, List.set_cons_zero, List.set_cons_succ, i64_w, i32_w]
           rfl
          refine pure_ (i := 1) (N := some 53) (v := ?_) (a' := ?_) (bs 22 3) rfl rfl (any_of HT_.out (by kernel_rfl)) (fun _ _ _ h => h) (Or.inl ⟨by rfl, ?_⟩) ?_ ?_; rotate_left
          ·intro w'
           go_simp
           with_reducible rfl
          rotate_left
          ·simp only [Act.put, List.setIfInBounds_toArray, List.set_cons_zero, List.set_cons_succ, i64_w, i32_w]
           rfl
          refine pure_ (i := 2) (N := some 54) (v := ?_) (a' := ?_) (bs 22 7) rfl rfl (any_of HT_.out (by kernel_rfl)) (fun _ _ _ h => h) (Or.inl ⟨by rfl, ?_⟩) ?_ ?_; rotate_left
          ·intro w'
           go_simp
           with_reducible rfl
          rotate_left
          ·simp only [Act.put, List.setIfInBounds_toArray, List.set_cons_zero, List.set_cons_succ, i64_w, i32_w]
           rfl
          refine pure_ (i := 3) (N := some 55) (v := ?_) (a' := ?_) (bs 22 15) rfl rfl (any_of HT_.out (by kernel_rfl)) (fun _ _ _ h => h) (Or.inl ⟨by rfl, ?_⟩) ?_ ?_; rotate_left
          ·intro w'
           go_simp
           with_reducible rfl
          rotate_left
          ·simp only [Act.put, List.setIfInBounds_toArray, List.set_cons_zero, List.set_cons_succ, i64_w, i32_w]
           rfl
          refine pure_ (i := 4) (N := some 56) (v := ?_) (a' := ?_) (bs 22 31) rfl rfl (any_of HT_.out (by kernel_rfl)) (fun _ _ _ h => h) (Or.inl ⟨by rfl, ?_⟩) ?_ ?_; rotate_left
          ·intro w'
           go_simp
           with_reducible rfl
          rotate_left
          ·simp only [Act.put, List.setIfInBounds_toArray, List.set_cons_zero, List.set_cons_succ, i64_w, i32_w]
           rfl
          refine pure_ (i := 5) (N := some 57) (v := ?_) (a' := ?_) (bs 22 63) rfl rfl (any_of HT_.out (by kernel_rfl)) (fun _ _ _ h => h) (Or.inl ⟨by rfl, ?_⟩) ?_ ?_; rotate_left
          ·intro w'
           go_simp
           with_reducible rfl
          rotate_left
          ·simp only [Act.put, List.setIfInBounds_toArray, List.set_cons_zero, List.set_cons_succ, i64_w, i32_w]
           rfl
          refine pure_ (i := 6) (N := some 58) (v := undef) (a' := ?_) (bs 22 127) rfl rfl (any_of HT_.out (by kernel_rfl)) (fun _ _ _ h => h) (Or.inr ⟨by rfl, rfl⟩) ?_ ?_; rotate_left
          ·simp only [Act.put, List.setIfInBounds_toArray, List.set_cons_zero, List.set_cons_succ, i64_w, i32_w]
           rfl
          refine pure_ (i := 7) (N := some 59) (v := undef) (a' := ?_) (bs 22 255) rfl rfl (any_of HT_.out (by kernel_rfl)) (fun _ _ _ h => h) (Or.inr ⟨by rfl, rfl⟩) ?_ ?_; rotate_left
          ·simp only [Act.put, List.setIfInBounds_toArray, List.set_cons_zero, List.set_cons_succ, i64_w, i32_w]
           rfl
          refine pure_ (i := 8) (N := some 60) (v := undef) (a' := ?_) (bs 22 511) rfl rfl (any_of HT_.out (by kernel_rfl)) (fun _ _ _ h => h) (Or.inr ⟨by rfl, rfl⟩) ?_ ?_; rotate_left
          ·simp only [Act.put, List.setIfInBounds_toArray, List.set_cons_zero, List.set_cons_succ, i64_w, i32_w]
           rfl
          refine pure_ (i := 9) (N := some 61) (v := undef) (a' := ?_) (bs 22 1023) rfl rfl (any_of HT_.out (by kernel_rfl)) (fun _ _ _ h => h) (Or.inr ⟨by rfl, rfl⟩) ?_ ?_; rotate_left
          ·simp only [Act.put, List.setIfInBounds_toArray, List.set_cons_zero, List.set_cons_succ, i64_w, i32_w]
           rfl
          refine pure_ (i := 10) (N := some 62) (v := undef) (a' := ?_) (bs 22 2047) rfl rfl (any_of HT_.out (by kernel_rfl)) (fun _ _ _ h => h) (Or.inr ⟨by rfl, rfl⟩) ?_ ?_; rotate_left
          ·simp only [Act.put, List.setIfInBounds_toArray, List.set_cons_zero, List.set_cons_succ, i64_w, i32_w]
           rfl
          refine pure_ (i := 11) (N := some 63) (v := ?_) (a' := ?_) (bs 22 4095) rfl rfl (any_of HT_.out (by kernel_rfl)) (fun _ _ _ h => h) (Or.inl ⟨by rfl, ?_⟩) ?_ ?_; rotate_left
          ·intro w'
           go_simp
           with_reducible rfl
          rotate_left
          ·simp only [Act.put, List.setIfInBounds_toArray, List.set_cons_zero, List.set_cons_succ, i64_w, i32_w]
           rfl
          refine pure_ (i := 12) (N := some 64) (v := ?_) (a' := ?_) (bs 22 8191) rfl rfl (any_of HT_.out (by kernel_rfl)) (fun _ _ _ h => h) (Or.inl ⟨by rfl, ?_⟩) ?_ ?_; rotate_left
          ·intro w'
           go_simp
           with_reducible rfl
          rotate_left
          ·simp only [Act.put, List.setIfInBounds_toArray, List.set_cons_zero, List.set_cons_succ, i64_w, i32_w]
           rfl
          refine pure_ (i := 13) (N := some 65) (v := undef) (a' := ?_) (bs 22 16383) rfl rfl (any_of HT_.out (by kernel_rfl)) (fun _ _ _ h => h) (Or.inr ⟨by rfl, rfl⟩) ?_ ?_; rotate_left
          ·simp only [Act.put, List.setIfInBounds_toArray, List.set_cons_zero, List.set_cons_succ, i64_w, i32_w]
           rfl
          refine pure_ (i := 14) (N := some 66) (v := undef) (a' := ?_) (bs 22 32767) rfl rfl (any_of HT_.out (by kernel_rfl)) (fun _ _ _ h => h) (Or.inr ⟨by rfl, rfl⟩) ?_ ?_; rotate_left
          ·simp only [Act.put, List.setIfInBounds_toArray, List.set_cons_zero, List.set_cons_succ, i64_w, i32_w]
           rfl
          refine pure_ (i := 15) (N := some 67) (v := ?_) (a' := ?_) (bs 22 65535) rfl rfl (any_of HT_.out (by kernel_rfl)) (fun _ _ _ h => h) (Or.inl ⟨by rfl, ?_⟩) ?_ ?_; rotate_left
          ·intro w'
           go_simp
           with_reducible rfl
          rotate_left
          ·simp only [Act.put, List.setIfInBounds_toArray, List.set_cons_zero, List.set_cons_succ, i64_w, i32_w]
           rfl
          refine pure_ (i := 16) (N := some 68) (v := ?_) (a' := ?_) (bs 22 131071) rfl rfl (any_of HT_.out (by kernel_rfl)) (fun _ _ _ h => h) (Or.inl ⟨by rfl, ?_⟩) ?_ ?_; rotate_left
          ·intro w'
           go_simp
           with_reducible rfl
          rotate_left
          ·simp only [Act.put, List.setIfInBounds_toArray, List.set_cons_zero, List.set_cons_succ, i64_w, i32_w]
           rfl
          refine pure_ (i := 17) (N := some 69) (v := undef) (a' := ?_) (bs 22 262143) rfl rfl (any_of HT_.out (by kernel_rfl)) (fun _ _ _ h => h) (Or.inr ⟨by rfl, rfl⟩) ?_ ?_; rotate_left
          ·simp only [Act.put, List.setIfInBounds_toArray, List.set_cons_zero, List.set_cons_succ, i64_w, i32_w]
           rfl
          refine pure_ (i := 18) (N := some 70) (v := undef) (a' := ?_) (bs 22 524287) rfl rfl (any_of HT_.out (by kernel_rfl)) (fun _ _ _ h => h) (Or.inr ⟨by rfl, rfl⟩) ?_ ?_; rotate_left
          ·simp only [Act.put, List.setIfInBounds_toArray, List.set_cons_zero, List.set_cons_succ, i64_w, i32_w]
           rfl
          refine pure_ (i := 19) (N := some 71) (v := undef) (a' := ?_) (bs 22 1048575) rfl rfl (any_of HT_.out (by kernel_rfl)) (fun _ _ _ h => h) (Or.inr ⟨by rfl, rfl⟩) ?_ ?_; rotate_left
          ·simp only [Act.put, List.setIfInBounds_toArray, List.set_cons_zero, List.set_cons_succ, i64_w, i32_w]
           rfl
          refine pure_ (i := 20) (N := some 72) (v := ?_) (a' := ?_) (bs 22 2097151) rfl rfl (any_of HT_.out (by kernel_rfl)) (fun _ _ _ h => h) (Or.inl ⟨by rfl, ?_⟩) ?_ ?_; rotate_left
          ·intro w'
           go_simp
           with_reducible rfl
          rotate_left
          ·simp only [Act.put, List.setIfInBounds_toArray, List.set_cons_zero, List.set_cons_succ, i64_w, i32_w]
           rfl
          refine pure_ (i := 21) (N := some 4) (v := ?_) (a' := ?_) (bs 22 4194303) rfl rfl (any_of HT_.out (by kernel_rfl)) (fun _ _ _ h => h) (Or.inl ⟨by rfl, ?_⟩) ?_ ?_; rotate_left
          ·intro w'
           go_simp
           with_reducible rfl
          rotate_left
          ·simp only [Act.put, List.setIfInBounds_toArray, List.set_cons_zero, List.set_cons_succ, i64_w, i32_w]
           rfl
          refine done_ (done_of HT_.out (by kernel_rfl)) ?_
          try go_wp2
          go_ret
          exact ⟨by first | rfl | (simp [errW_none, errW_some] <;> rfl) | (simp [*, errW_none, errW_some] <;> rfl), by repeat (first | (with_reducible first | exact HB.out | apply below_alloc | apply pw_below_drewN | apply below_drew1 | refine below_set ?_ GE154.out | refine below_set ?_ GE174.out) | exact HB.out)⟩
        ·replace c32 := Bool.eq_false_iff.mpr c32
         subst c32; have H1 : (some false) = some r := by rw [if_neg (show ¬ (false = true) by decide)] at H; exact H
         clear H; have H := H1; clear H1; obtain rfl := Option.some.inj H; have hcz96_0 := (blk_cell BK154.out 0).trans rfl; have hcz96_1 := (blk_cell BK154.out 1).trans rfl; have hfz96_0 := blk_frozen BK154.out 0; have hfz96_1 := blk_frozen BK154.out 1
         try go_wp2_with (first | ((with_reducible refine gate_callee (f := 30) rfl ?_); refine goesL_ (some 35) rfl rfl Try.func30 (by kernel_rfl) rfl #[.agg #[.slice A0_0 l0_0.length c0_0, .slice A0_1 l0_1.length c0_1]] rfl (by (try simp only [List.map_toArray, List.map_cons, List.map_nil]); first | done | rfl) ?_; (with_reducible refine (rowlockref12_May.calls kj14 _ _ l0_0 _ _ l0_1 true _ ?side1 ?side2 ?side3 ?side4 A28.out).mono ?_); (case side1 => repeat (first | exact (Kd.C_below HR0_0.out HB.out) | (with_reducible refine Kd.C_alloc ?_ _) | (with_reducible refine Kd.C_drewN ?_ _) | (with_reducible refine Kd.C_drew ?_))); (case side2 => exact HC0_0.out); (case side3 => repeat (first | exact (Kd.C_below HR0_1.out HB.out) | (with_reducible refine Kd.C_alloc ?_ _) | (with_reducible refine Kd.C_drewN ?_ _) | (with_reducible refine Kd.C_drew ?_))); (case side4 => exact HC0_1.out); rintro e w97 ⟨rfl, hb⟩; refine ⟨_, rfl, ?_⟩; have n0_ := Aside0.mk (Kd.R_below HO_5.out hb); have n1_ := Aside0.mk (blk_below (g := gb154) (o := .cells #[.slice A0_0 l0_0.length c0_0, .slice A0_1 l0_1.length c0_1] 80 (0, 0)) BK154.out hb); have n2_ := Aside0.mk (below_step HB.out hb); clear HO_5; clear BK154; clear HB; have HO_5 := n0_; have BK154 := n1_; have HB := n2_; clear n0_ n1_ n2_; (try clear hb); (try clear hb2); (try clear hk); (try clear hi); obtain ⟨Ao98, co98, eo98⟩ := Kd.R_slice HO_5.out; subst eo98) | ((with_reducible refine gate_callee (f := 37) rfl ?_); refine goesL_ (some 49) rfl rfl Try.func37 (by kernel_rfl) rfl #[.slice Ao98 t157.length co98] rfl (by (try simp only [List.map_toArray, List.map_cons, List.map_nil]); first | done | rfl) ?_; (with_reducible refine (schema_Get.calls kj14 _ _ t157 t167 t170 t173 _ ?side1 ?side2 A30.out).mono ?_); (case side1 => repeat (first | exact (Kd.R_reads' HO_5.out).2.2 | (with_reducible refine Kd.C_alloc ?_ _) | (with_reducible refine Kd.C_drewN ?_ _) | (with_reducible refine Kd.C_drew ?_))); (case side2 => exact (Kd.R_reads' HO_5.out).2.1); rintro e w99 ⟨v168, v171, rfl, ho0, ho1, hb⟩; refine ⟨_, rfl, ?_⟩; have n0_ := Aside0.mk (Kd.R_below HO_5.out hb); have n1_ := Aside0.mk (Kd.R_lower ho0 (below_size HB.out)); have n2_ := Aside0.mk (Kd.R_lower ho1 (below_size HB.out)); have n3_ := Aside0.mk (blk_below (g := gb154) (o := .cells #[.slice A0_0 l0_0.length c0_0, .slice A0_1 l0_1.length c0_1] 80 (0, 0)) BK154.out hb); have n4_ := Aside0.mk (below_step HB.out hb); clear HO_5; clear BK154; clear HB; have HO_5 := n0_; have HO169 := n1_; have HO172 := n2_; have BK154 := n3_; have HB := n4_; clear n0_ n1_ n2_ n3_ n4_; (try clear hb); (try clear hb2); (try clear hk); (try clear hi); (try clear ho0); (try clear ho1)) | ((with_reducible refine gate_dst (N := 7) rfl ?_); (try (refine gate_guard (by rfl) ?_; dsimp only)); refine box_event ?hg (N := 7) ?hd (cs := #[.slice none 0 0, .slice none 0 0]) (t := 80) ?hr ?_; (case hd => rfl); (case hg => rfl); (case hr => first | (go_simp; done) | (go_simp; rfl)); intro gb174 hg w100 hbox hb; have n0_ := Aside0.mk (Kd.R_below HO_5.out hb); have n1_ := Aside0.mk (Kd.R_below HO169.out hb); have n2_ := Aside0.mk (Kd.R_below HO172.out hb); have n3_ := Aside0.mk (blk_below (g := gb154) (o := .cells #[.slice A0_0 l0_0.length c0_0, .slice A0_1 l0_1.length c0_1] 80 (0, 0)) BK154.out hb); have n4_ := Aside0.mk (below_step HB.out hb); have n5_ := Aside0.mk (hbox); have n6_ := Aside0.mk ((by rw [hg]; exact (below_size HB.out) : w.heap.size ≤ gb174)); have n7_ := Aside0.mk ((by rw [hg]; exact (below_size HB.out) : w.heap.size ≤ gb174)); have n8_ := Aside0.mk ((by rw [hg]; exact Nat.ne_of_lt (blk_lt (g := gb154) (o := .cells #[.slice A0_0 l0_0.length c0_0, .slice A0_1 l0_1.length c0_1] 80 (0, 0)) BK154.out) : gb154 ≠ gb174)); have n9_ := Aside0.mk ((by rw [hg]; exact Nat.ne_of_gt (blk_lt (g := gb154) (o := .cells #[.slice A0_0 l0_0.length c0_0, .slice A0_1 l0_1.length c0_1] 80 (0, 0)) BK154.out) : gb174 ≠ gb154)); clear HO_5; clear HO169; clear HO172; clear BK154; clear HB; have HO_5 := n0_; have HO169 := n1_; have HO172 := n2_; have BK154 := n3_; have HB := n4_; have BK174 := n5_; have GW174 := n6_; have GE174 := n7_; have NB154_174 := n8_; have NB174_154 := n9_; clear n0_ n1_ n2_ n3_ n4_ n5_ n6_ n7_ n8_ n9_; clear hb hbox hg; obtain ⟨Ao101, co101, eo101⟩ := Kd.R_slice HO169.out; subst eo101; have hnb102 := NB174_154.out; have hnc102 := NB154_174.out; have hcz103_0 := (blk_cell BK174.out 0).trans rfl; have hcz103_1 := (blk_cell BK174.out 1).trans rfl; have hfz103_0 := blk_frozen BK174.out 0; have hfz103_1 := blk_frozen BK174.out 1; obtain ⟨Ao104, co104, eo104⟩ := Kd.R_slice HO172.out; subst eo104))
         have n0_ : Aside0 (Kd.R (Kd.int .u8) 5 ((w100.setCell ⟨gb174, 0, none⟩ (.slice Ao101 t167.length co101)).setCell ⟨gb174, 1, none⟩ (.slice Ao104 t170.length co104)) w.heap.size (fun _ => True) (.slice Ao98 t157.length co98) t157) := ⟨by (with_reducible repeat (first | apply Kd.R_alloc | apply Kd.R_drewN | apply Kd.R_drew)); exact Kd.R_mono (Kd.R_far (p := ⟨gb174, 1, none⟩) (Kd.R_far (p := ⟨gb174, 0, none⟩) (Kd.R_types HO_5.out BK174.out (by decide)) (fun _ hk => hk.2) (.slice Ao101 t167.length co101)) (fun _ hk => hk.2) (.slice Ao104 t170.length co104)) (fun _ hk => trivial)⟩; have n1_ : Aside0 (Kd.R k84 84 ((w100.setCell ⟨gb174, 0, none⟩ (.slice Ao101 t167.length co101)).setCell ⟨gb174, 1, none⟩ (.slice Ao104 t170.length co104)) w.heap.size (fun _ => True) (.slice Ao101 t167.length co101) t167) := ⟨by (with_reducible repeat (first | apply Kd.R_alloc | apply Kd.R_drewN | apply Kd.R_drew)); exact Kd.R_mono (Kd.R_far (p := ⟨gb174, 1, none⟩) (Kd.R_far (p := ⟨gb174, 0, none⟩) (Kd.R_types HO169.out BK174.out (by decide)) (fun _ hk => hk.2) (.slice Ao101 t167.length co101)) (fun _ hk => hk.2) (.slice Ao104 t170.length co104)) (fun _ hk => trivial)⟩; have n2_ : Aside0 (Kd.R k135 135 ((w100.setCell ⟨gb174, 0, none⟩ (.slice Ao101 t167.length co101)).setCell ⟨gb174, 1, none⟩ (.slice Ao104 t170.length co104)) w.heap.size (fun _ => True) (.slice Ao104 t170.length co104) t170) := ⟨by (with_reducible repeat (first | apply Kd.R_alloc | apply Kd.R_drewN | apply Kd.R_drew)); exact Kd.R_mono (Kd.R_far (p := ⟨gb174, 1, none⟩) (Kd.R_far (p := ⟨gb174, 0, none⟩) (Kd.R_types HO172.out BK174.out (by decide)) (fun _ hk => hk.2) (.slice Ao101 t167.length co101)) (fun _ hk => hk.2) (.slice Ao104 t170.length co104)) (fun _ hk => trivial)⟩; have n3_ : Aside0 (((w100.setCell ⟨gb174, 0, none⟩ (.slice Ao101 t167.length co101)).setCell ⟨gb174, 1, none⟩ (.slice Ao104 t170.length co104)).heap[gb154]? = some (.cells #[.slice A0_0 l0_0.length c0_0, .slice A0_1 l0_1.length c0_1] 80 (0, 0))) := ⟨by (with_reducible repeat (first | refine blk_drewN ?_ _ | refine blk_drew ?_ | refine blk_alloc ?_ _)); refine blk_far ?_ NB154_174.out _; (with_reducible repeat (first | refine blk_drewN ?_ _ | refine blk_drew ?_ | refine blk_alloc ?_ _)); refine blk_far ?_ NB154_174.out _; (with_reducible repeat (first | refine blk_drewN ?_ _ | refine blk_drew ?_ | refine blk_alloc ?_ _)); exact BK154.out⟩; have n4_ : Aside0 (((w100.setCell ⟨gb174, 0, none⟩ (.slice Ao101 t167.length co101)).setCell ⟨gb174, 1, none⟩ (.slice Ao104 t170.length co104)).heap[gb174]? = some (.cells #[.slice Ao101 t167.length co101, .slice Ao104 t170.length co104] 80 (0, 0))) := ⟨by (with_reducible repeat (first | refine blk_drewN ?_ _ | refine blk_drew ?_ | refine blk_alloc ?_ _)); refine blk_put (cs := #[.slice Ao101 t167.length co101, .slice none 0 0]) ?_ 1 _ rfl; (with_reducible repeat (first | refine blk_drewN ?_ _ | refine blk_drew ?_ | refine blk_alloc ?_ _)); refine blk_put (cs := #[.slice none 0 0, .slice none 0 0]) ?_ 0 _ rfl; (with_reducible repeat (first | refine blk_drewN ?_ _ | refine blk_drew ?_ | refine blk_alloc ?_ _)); exact BK174.out⟩; have n5_ : Aside0 (Below w.heap.size w ((w100.setCell ⟨gb174, 0, none⟩ (.slice Ao101 t167.length co101)).setCell ⟨gb174, 1, none⟩ (.slice Ao104 t170.length co104))) := ⟨by repeat (first | (with_reducible first | exact HB.out | apply below_alloc | apply pw_below_drewN | apply below_drew1 | refine below_set ?_ GE154.out | refine below_set ?_ GE174.out) | exact HB.out)⟩; (try clear HO_5); (try clear HO169); (try clear HO172); (try clear BK154); (try clear BK174); (try clear HB); generalize ((w100.setCell ⟨gb174, 0, none⟩ (.slice Ao101 t167.length co101)).setCell ⟨gb174, 1, none⟩ (.slice Ao104 t170.length co104)) = w105 at n0_ n1_ n2_ n3_ n4_ n5_ ⊢; have HO_5 := n0_; have HO169 := n1_; have HO172 := n2_; have BK154 := n3_; have BK174 := n4_; have HB := n5_; clear n0_ n1_ n2_ n3_ n4_ n5_; have n0_ := Aside0.mk (Kd.R_drew HO_5.out); have n1_ := Aside0.mk (Kd.R_drew HO169.out); have n2_ := Aside0.mk (Kd.R_drew HO172.out); have n3_ := Aside0.mk (blk_drew BK154.out); have n4_ := Aside0.mk (blk_drew BK174.out); have n5_ := Aside0.mk (below_drew1 HB.out); clear HO_5; clear HO169; clear HO172; clear BK154; clear BK174; clear HB; have HO_5 := n0_; have HO169 := n1_; have HO172 := n2_; have BK154 := n3_; have BK174 := n4_; have HB := n5_; clear n0_ n1_ n2_ n3_ n4_ n5_; refine start_ (n := 22) (S := fun w' => (convert 52 9 (.slice Ao98 t157.length co98)).run Try.prog w' = .ok (.string (strOfNums t157)) w') (ds := []) #[false, false, false, false, false, false, false, false, false, false, false, false, false, false, false, false, false, false, false, false, false, false] (by kernel_rfl) rfl rfl (own_string (P := Try.prog) Try.underlying52 Try.underlying5 Try.underlying9 (Kd.own_of_R (Kd.R_drew HO_5.out))) (fun hHeld => ?_); refine with_tabW rowlocklaw12_SchemaPuts.tab9 rowlocklaw12_SchemaPuts.bits9 (fun HT_ HW_ => ?_); generalize w105.drew = w106 at HO_5 HO169 HO172 BK154 BK174 HB hHeld ⊢; refine one_ (i := 0) (N := some 52) (bs 22 1) rfl rfl (one_of HT_.out (by kernel_rfl)) (by decide) (fun K hK => ?_); refine goes_ Try.func27 (by kernel_rfl) rfl #[] (by rfl) rfl rfl (by (try simp only [List.map_toArray, List.map_cons, List.map_nil]); first | done | rfl) ?_
         with_reducible refine (rowlocklaw12_fixed.calls  false _ A31.out).mono ?_
         rintro e w107 ⟨rfl, hb⟩
         refine ⟨_, rfl, ?_⟩
         have n0_ := Aside0.mk (Kd.R_below (by (with_reducible repeat (first | apply Kd.R_alloc | apply Kd.R_drewN | apply Kd.R_drew)); exact HO_5.out) hb); have n1_ := Aside0.mk (Kd.R_below (by (with_reducible repeat (first | apply Kd.R_alloc | apply Kd.R_drewN | apply Kd.R_drew)); exact HO169.out) hb); have n2_ := Aside0.mk (Kd.R_below (by (with_reducible repeat (first | apply Kd.R_alloc | apply Kd.R_drewN | apply Kd.R_drew)); exact HO172.out) hb); have n3_ := Aside0.mk (blk_below (g := gb154) (o := .cells #[.slice A0_0 l0_0.length c0_0, .slice A0_1 l0_1.length c0_1] 80 (0, 0)) (by (with_reducible repeat (first | refine blk_drewN ?_ _ | refine blk_drew ?_ | refine blk_alloc ?_ _)); exact BK154.out) hb); have n4_ := Aside0.mk (blk_below (g := gb174) (o := .cells #[.slice Ao101 t167.length co101, .slice Ao104 t170.length co104] 80 (0, 0)) (by (with_reducible repeat (first | refine blk_drewN ?_ _ | refine blk_drew ?_ | refine blk_alloc ?_ _)); exact BK174.out) hb); have n5_ := Aside0.mk (below_step (by repeat (first | (with_reducible first | exact HB.out | apply below_alloc | apply pw_below_drewN | apply below_drew1 | refine below_set ?_ GE154.out | refine below_set ?_ GE174.out) | exact HB.out)) hb)
         clear HO_5
         clear HO169
         clear HO172
         clear BK154
         clear BK174
         clear HB
         have HO_5 := n0_
         have HO169 := n1_
         have HO172 := n2_
         have BK154 := n3_
         have BK174 := n4_
         have HB := n5_
         clear n0_ n1_ n2_ n3_ n4_ n5_
         (try clear hb)
         (try clear hb2)
         (try clear hk)
         (try clear hi)
         refine hK.out _ _ (own_string (P := Try.prog) Try.underlying52 Try.underlying5 Try.underlying9 (Kd.own_of_R HO_5.out)) (fun hHeld => ?_)
         clear hK K
         refine norm_ (a' := ?_) ?_ ?_
         rotate_left
         ·show Act.put _ (some 52) _ = _
          simp only [Act.put, List.setIfInBounds_toArray, List.set_cons_zero, List.set_cons_succ, i64_w, i32_w]
          rfl
         refine pure_ (i := 1) (N := some 53) (v := ?_) (a' := ?_) (bs 22 3) rfl rfl (any_of HT_.out (by kernel_rfl)) (fun _ _ _ h => h) (Or.inl ⟨by rfl, ?_⟩) ?_ ?_; rotate_left
         ·intro w'
          go_simp
          with_reducible rfl
         rotate_left
         ·simp only [Act.put, List.setIfInBounds_toArray, List.set_cons_zero, List.set_cons_succ, i64_w, i32_w]
          rfl
         refine pure_ (i := 2) (N := some 54) (v := undef) (a' := ?_) (bs 22 7) rfl rfl (any_of HT_.out (by kernel_rfl)) (fun _ _ _ h => h) (Or.inr ⟨by rfl, rfl⟩) ?_ ?_; rotate_left
         ·simp only [Act.put, List.setIfInBounds_toArray, List.set_cons_zero, List.set_cons_succ, i64_w, i32_w]
          rfl
         refine pure_ (i := 3) (N := some 55) (v := undef) (a' := ?_) (bs 22 15) rfl rfl (any_of HT_.out (by kernel_rfl)) (fun _ _ _ h => h) (Or.inr ⟨by rfl, rfl⟩) ?_ ?_; rotate_left
         ·simp only [Act.put, List.setIfInBounds_toArray, List.set_cons_zero, List.set_cons_succ, i64_w, i32_w]
          rfl
         refine pure_ (i := 4) (N := some 56) (v := ?_) (a' := ?_) (bs 22 31) rfl rfl (any_of HT_.out (by kernel_rfl)) (fun _ _ _ h => h) (Or.inl ⟨by rfl, ?_⟩) ?_ ?_; rotate_left
         ·intro w'
          go_simp
          with_reducible rfl
         rotate_left
         ·simp only [Act.put, List.setIfInBounds_toArray, List.set_cons_zero, List.set_cons_succ, i64_w, i32_w]
          rfl
         refine pure_ (i := 5) (N := some 57) (v := ?_) (a' := ?_) (bs 22 63) rfl rfl (any_of HT_.out (by kernel_rfl)) (fun _ _ _ h => h) (Or.inl ⟨by rfl, ?_⟩) ?_ ?_; rotate_left
         ·intro w'
          go_simp
          with_reducible rfl
         rotate_left
         ·simp only [Act.put, List.setIfInBounds_toArray, List.set_cons_zero, List.set_cons_succ, i64_w, i32_w]
          rfl
         refine pure_ (i := 6) (N := some 58) (v := undef) (a' := ?_) (bs 22 127) rfl rfl (any_of HT_.out (by kernel_rfl)) (fun _ _ _ h => h) (Or.inr ⟨by rfl, rfl⟩) ?_ ?_; rotate_left
         ·simp only [Act.put, List.setIfInBounds_toArray, List.set_cons_zero, List.set_cons_succ, i64_w, i32_w]
          rfl
         refine pure_ (i := 7) (N := some 59) (v := undef) (a' := ?_) (bs 22 255) rfl rfl (any_of HT_.out (by kernel_rfl)) (fun _ _ _ h => h) (Or.inr ⟨by rfl, rfl⟩) ?_ ?_; rotate_left
         ·simp only [Act.put, List.setIfInBounds_toArray, List.set_cons_zero, List.set_cons_succ, i64_w, i32_w]
          rfl
         refine pure_ (i := 8) (N := some 60) (v := undef) (a' := ?_) (bs 22 511) rfl rfl (any_of HT_.out (by kernel_rfl)) (fun _ _ _ h => h) (Or.inr ⟨by rfl, rfl⟩) ?_ ?_; rotate_left
         ·simp only [Act.put, List.setIfInBounds_toArray, List.set_cons_zero, List.set_cons_succ, i64_w, i32_w]
          rfl
         refine pure_ (i := 9) (N := some 61) (v := undef) (a' := ?_) (bs 22 1023) rfl rfl (any_of HT_.out (by kernel_rfl)) (fun _ _ _ h => h) (Or.inr ⟨by rfl, rfl⟩) ?_ ?_; rotate_left
         ·simp only [Act.put, List.setIfInBounds_toArray, List.set_cons_zero, List.set_cons_succ, i64_w, i32_w]
          rfl
         refine pure_ (i := 10) (N := some 62) (v := undef) (a' := ?_) (bs 22 2047) rfl rfl (any_of HT_.out (by kernel_rfl)) (fun _ _ _ h => h) (Or.inr ⟨by rfl, rfl⟩) ?_ ?_; rotate_left
         ·simp only [Act.put, List.setIfInBounds_toArray, List.set_cons_zero, List.set_cons_succ, i64_w, i32_w]
          rfl
         refine pure_ (i := 11) (N := some 63) (v := ?_) (a' := ?_) (bs 22 4095) rfl rfl (any_of HT_.out (by kernel_rfl)) (fun _ _ _ h => h) (Or.inl ⟨by rfl, ?_⟩) ?_ ?_; rotate_left
         ·intro w'
          go_simp
          with_reducible rfl
         rotate_left
         ·simp only [Act.put, List.setIfInBounds_toArray, List.set_cons_zero, List.set_cons_succ, i64_w, i32_w]
          rfl
         refine pure_ (i := 12) (N := some 64) (v := ?_) (a' := ?_) (bs 22 8191) rfl rfl (any_of HT_.out (by kernel_rfl)) (fun _ _ _ h => h) (Or.inl ⟨by rfl, ?_⟩) ?_ ?_; rotate_left
         ·intro w'
          go_simp
          with_reducible rfl
         rotate_left
         ·simp only [Act.put, List.setIfInBounds_toArray, List.set_cons_zero, List.set_cons_succ, i64_w, i32_w]
          rfl
         refine pure_ (i := 13) (N := some 65) (v := undef) (a' := ?_) (bs 22 16383) rfl rfl (any_of HT_.out (by kernel_rfl)) (fun _ _ _ h => h) (Or.inr ⟨by rfl, rfl⟩) ?_ ?_; rotate_left
         ·simp only [Act.put, List.setIfInBounds_toArray, List.set_cons_zero, List.set_cons_succ, i64_w, i32_w]
          rfl
         refine pure_ (i := 14) (N := some 66) (v := undef) (a' := ?_) (bs 22 32767) rfl rfl (any_of HT_.out (by kernel_rfl)) (fun _ _ _ h => h) (Or.inr ⟨by rfl, rfl⟩) ?_ ?_; rotate_left
         ·simp only [Act.put, List.setIfInBounds_toArray, List.set_cons_zero, List.set_cons_succ, i64_w, i32_w]
          rfl
         refine pure_ (i := 15) (N := some 67) (v := ?_) (a' := ?_) (bs 22 65535) rfl rfl (any_of HT_.out (by kernel_rfl)) (fun _ _ _ h => h) (Or.inl ⟨by rfl, ?_⟩) ?_ ?_; rotate_left
         ·intro w'
          go_simp
          with_reducible rfl
         rotate_left
         ·simp only [Act.put, List.setIfInBounds_toArray, List.set_cons_zero, List.set_cons_succ, i64_w, i32_w]
          rfl
         refine pure_ (i := 16) (N := some 68) (v := ?_) (a' := ?_) (bs 22 131071) rfl rfl (any_of HT_.out (by kernel_rfl)) (fun _ _ _ h => h) (Or.inl ⟨by rfl, ?_⟩) ?_ ?_; rotate_left
         ·intro w'
          go_simp
          with_reducible rfl
         rotate_left
         ·simp only [Act.put, List.setIfInBounds_toArray, List.set_cons_zero, List.set_cons_succ, i64_w, i32_w]
          rfl
         refine pure_ (i := 17) (N := some 69) (v := undef) (a' := ?_) (bs 22 262143) rfl rfl (any_of HT_.out (by kernel_rfl)) (fun _ _ _ h => h) (Or.inr ⟨by rfl, rfl⟩) ?_ ?_; rotate_left
         ·simp only [Act.put, List.setIfInBounds_toArray, List.set_cons_zero, List.set_cons_succ, i64_w, i32_w]
          rfl
         refine pure_ (i := 18) (N := some 70) (v := undef) (a' := ?_) (bs 22 524287) rfl rfl (any_of HT_.out (by kernel_rfl)) (fun _ _ _ h => h) (Or.inr ⟨by rfl, rfl⟩) ?_ ?_; rotate_left
         ·simp only [Act.put, List.setIfInBounds_toArray, List.set_cons_zero, List.set_cons_succ, i64_w, i32_w]
          rfl
         refine pure_ (i := 19) (N := some 71) (v := undef) (a' := ?_) (bs 22 1048575) rfl rfl (any_of HT_.out (by kernel_rfl)) (fun _ _ _ h => h) (Or.inr ⟨by rfl, rfl⟩) ?_ ?_; rotate_left
         ·simp only [Act.put, List.setIfInBounds_toArray, List.set_cons_zero, List.set_cons_succ, i64_w, i32_w]
          rfl
         refine pure_ (i := 20) (N := some 72) (v := ?_) (a' := ?_) (bs 22 2097151) rfl rfl (any_of HT_.out (by kernel_rfl)) (fun _ _ _ h => h) (Or.inl ⟨by rfl, ?_⟩) ?_ ?_; rotate_left
         ·intro w'
          go_simp
          with_reducible rfl
         rotate_left
         ·simp only [Act.put, List.setIfInBounds_toArray, List.set_cons_zero, List.set_cons_succ, i64_w, i32_w]
          rfl
         refine pure_ (i := 21) (N := some 4) (v := ?_) (a' := ?_) (bs 22 4194303) rfl rfl (any_of HT_.out (by kernel_rfl)) (fun _ _ _ h => h) (Or.inl ⟨by rfl, ?_⟩) ?_ ?_; rotate_left
         ·intro w'
          go_simp
          with_reducible rfl
         rotate_left
         ·simp only [Act.put, List.setIfInBounds_toArray, List.set_cons_zero, List.set_cons_succ, i64_w, i32_w]
          rfl
         refine done_ (done_of HT_.out (by kernel_rfl)) ?_
         try go_wp2
         go_ret
         exact ⟨by first | rfl | (simp [errW_none, errW_some] <;> rfl) | (simp [*, errW_none, errW_some] <;> rfl), by repeat (first | (with_reducible first | exact HB.out | apply below_alloc | apply pw_below_drewN | apply below_drew1 | refine below_set ?_ GE154.out | refine below_set ?_ GE174.out) | exact HB.out)⟩
       ·replace c29 := Bool.eq_false_iff.mpr c29
        subst c29; have H1 : ((rowlocklaw12_fixed.f).bind fun t166 => (if t166 = true then (if t160 = 1 then (some ((t157.length : Int) == 0)) else (some false)) else (some false))) = some r := by rw [if_neg (show ¬ (false = true) by decide)] at H; exact H
        clear H; have H := H1; clear H1; replace H := Option.bind_eq_some_iff.mp H; obtain ⟨t166, A1080, H⟩ := H; replace H : (if t166 = true then (if t160 = 1 then (some ((t157.length : Int) == 0)) else (some false)) else (some false)) = some r := H; have A108 := Aside0.mk A1080; clear A1080
        by_cases c109 : t166 = true
        ·subst c109
         have H1 : (if t160 = 1 then (some ((t157.length : Int) == 0)) else (some false)) = some r := by rw [if_pos rfl] at H; exact H
         clear H; have H := H1; clear H1
         by_cases c110 : t160 = 1
         ·rw [if_pos c110] at H
          have c110b0 : (t160 == 1) = true := beq_iff_eq.mpr c110; have c110b1 : (t160 != 1) = false := bne_eq_false_iff_eq.mpr c110; clear c110; obtain rfl := Option.some.inj H; have hcz111_0 := (blk_cell BK154.out 0).trans rfl; have hcz111_1 := (blk_cell BK154.out 1).trans rfl; have hfz111_0 := blk_frozen BK154.out 0; have hfz111_1 := blk_frozen BK154.out 1
          go_wp2_with (first | ((with_reducible refine gate_callee (f := 30) rfl ?_); refine goesL_ (some 35) rfl rfl Try.func30 (by kernel_rfl) rfl #[.agg #[.slice A0_0 l0_0.length c0_0, .slice A0_1 l0_1.length c0_1]] rfl (by (try simp only [List.map_toArray, List.map_cons, List.map_nil]); first | done | rfl) ?_; (with_reducible refine (rowlockref12_May.calls kj14 _ _ l0_0 _ _ l0_1 false _ ?side1 ?side2 ?side3 ?side4 A28.out).mono ?_); (case side1 => repeat (first | exact (Kd.C_below HR0_0.out HB.out) | (with_reducible refine Kd.C_alloc ?_ _) | (with_reducible refine Kd.C_drewN ?_ _) | (with_reducible refine Kd.C_drew ?_))); (case side2 => exact HC0_0.out); (case side3 => repeat (first | exact (Kd.C_below HR0_1.out HB.out) | (with_reducible refine Kd.C_alloc ?_ _) | (with_reducible refine Kd.C_drewN ?_ _) | (with_reducible refine Kd.C_drew ?_))); (case side4 => exact HC0_1.out); rintro e w112 ⟨rfl, hb⟩; refine ⟨_, rfl, ?_⟩; have n0_ := Aside0.mk (Kd.R_below HO_5.out hb); have n1_ := Aside0.mk (blk_below (g := gb154) (o := .cells #[.slice A0_0 l0_0.length c0_0, .slice A0_1 l0_1.length c0_1] 80 (0, 0)) BK154.out hb); have n2_ := Aside0.mk (below_step HB.out hb); clear HO_5; clear BK154; clear HB; have HO_5 := n0_; have BK154 := n1_; have HB := n2_; clear n0_ n1_ n2_; (try clear hb); (try clear hb2); (try clear hk); (try clear hi)) | ((with_reducible refine gate_callee (f := 27) rfl ?_); refine goesL_ (some 37) rfl rfl Try.func27 (by kernel_rfl) rfl #[] rfl (by (try simp only [List.map_toArray, List.map_cons, List.map_nil]); first | done | rfl) ?_; (with_reducible refine (rowlocklaw12_fixed.calls  true _ A108.out).mono ?_); rintro e w113 ⟨rfl, hb⟩; refine ⟨_, rfl, ?_⟩; have n0_ := Aside0.mk (Kd.R_below HO_5.out hb); have n1_ := Aside0.mk (blk_below (g := gb154) (o := .cells #[.slice A0_0 l0_0.length c0_0, .slice A0_1 l0_1.length c0_1] 80 (0, 0)) BK154.out hb); have n2_ := Aside0.mk (below_step HB.out hb); clear HO_5; clear BK154; clear HB; have HO_5 := n0_; have BK154 := n1_; have HB := n2_; clear n0_ n1_ n2_; (try clear hb); (try clear hb2); (try clear hk); (try clear hi); obtain ⟨Ao114, co114, eo114⟩ := Kd.R_slice HO_5.out; subst eo114))
          go_ret
          exact ⟨by first | rfl | (simp [errW_none, errW_some] <;> rfl) | (simp [*, errW_none, errW_some] <;> rfl), by repeat (first | (with_reducible first | exact HB.out | apply below_alloc | apply pw_below_drewN | apply below_drew1 | refine below_set ?_ GE154.out) | exact HB.out)⟩
         ·rw [if_neg c110] at H
          have c110b0 : (t160 == 1) = false := beq_eq_false_iff_ne.mpr c110; have c110b1 : (t160 != 1) = true := bne_iff_ne.mpr c110; obtain rfl := Option.some.inj H; have hcz115_0 := (blk_cell BK154.out 0).trans rfl; have hcz115_1 := (blk_cell BK154.out 1).trans rfl; have hfz115_0 := blk_frozen BK154.out 0; have hfz115_1 := blk_frozen BK154.out 1
          go_wp2_with (first | ((with_reducible refine gate_callee (f := 30) rfl ?_); refine goesL_ (some 35) rfl rfl Try.func30 (by kernel_rfl) rfl #[.agg #[.slice A0_0 l0_0.length c0_0, .slice A0_1 l0_1.length c0_1]] rfl (by (try simp only [List.map_toArray, List.map_cons, List.map_nil]); first | done | rfl) ?_; (with_reducible refine (rowlockref12_May.calls kj14 _ _ l0_0 _ _ l0_1 false _ ?side1 ?side2 ?side3 ?side4 A28.out).mono ?_); (case side1 => repeat (first | exact (Kd.C_below HR0_0.out HB.out) | (with_reducible refine Kd.C_alloc ?_ _) | (with_reducible refine Kd.C_drewN ?_ _) | (with_reducible refine Kd.C_drew ?_))); (case side2 => exact HC0_0.out); (case side3 => repeat (first | exact (Kd.C_below HR0_1.out HB.out) | (with_reducible refine Kd.C_alloc ?_ _) | (with_reducible refine Kd.C_drewN ?_ _) | (with_reducible refine Kd.C_drew ?_))); (case side4 => exact HC0_1.out); rintro e w116 ⟨rfl, hb⟩; refine ⟨_, rfl, ?_⟩; have n0_ := Aside0.mk (Kd.R_below HO_5.out hb); have n1_ := Aside0.mk (blk_below (g := gb154) (o := .cells #[.slice A0_0 l0_0.length c0_0, .slice A0_1 l0_1.length c0_1] 80 (0, 0)) BK154.out hb); have n2_ := Aside0.mk (below_step HB.out hb); clear HO_5; clear BK154; clear HB; have HO_5 := n0_; have BK154 := n1_; have HB := n2_; clear n0_ n1_ n2_; (try clear hb); (try clear hb2); (try clear hk); (try clear hi)) | ((with_reducible refine gate_callee (f := 27) rfl ?_); refine goesL_ (some 37) rfl rfl Try.func27 (by kernel_rfl) rfl #[] rfl (by (try simp only [List.map_toArray, List.map_cons, List.map_nil]); first | done | rfl) ?_; (with_reducible refine (rowlocklaw12_fixed.calls  true _ A108.out).mono ?_); rintro e w117 ⟨rfl, hb⟩; refine ⟨_, rfl, ?_⟩; have n0_ := Aside0.mk (Kd.R_below HO_5.out hb); have n1_ := Aside0.mk (blk_below (g := gb154) (o := .cells #[.slice A0_0 l0_0.length c0_0, .slice A0_1 l0_1.length c0_1] 80 (0, 0)) BK154.out hb); have n2_ := Aside0.mk (below_step HB.out hb); clear HO_5; clear BK154; clear HB; have HO_5 := n0_; have BK154 := n1_; have HB := n2_; clear n0_ n1_ n2_; (try clear hb); (try clear hb2); (try clear hk); (try clear hi)))
          go_ret
          exact ⟨by first | rfl | (simp [errW_none, errW_some] <;> rfl) | (simp [*, errW_none, errW_some] <;> rfl), by repeat (first | (with_reducible first | exact HB.out | apply below_alloc | apply pw_below_drewN | apply below_drew1 | refine below_set ?_ GE154.out) | exact HB.out)⟩
        ·replace c109 := Bool.eq_false_iff.mpr c109
         subst c109; have H1 : (some false) = some r := by rw [if_neg (show ¬ (false = true) by decide)] at H; exact H
         clear H; have H := H1; clear H1; obtain rfl := Option.some.inj H; have hcz118_0 := (blk_cell BK154.out 0).trans rfl; have hcz118_1 := (blk_cell BK154.out 1).trans rfl; have hfz118_0 := blk_frozen BK154.out 0; have hfz118_1 := blk_frozen BK154.out 1
         go_wp2_with (first | ((with_reducible refine gate_callee (f := 30) rfl ?_); refine goesL_ (some 35) rfl rfl Try.func30 (by kernel_rfl) rfl #[.agg #[.slice A0_0 l0_0.length c0_0, .slice A0_1 l0_1.length c0_1]] rfl (by (try simp only [List.map_toArray, List.map_cons, List.map_nil]); first | done | rfl) ?_; (with_reducible refine (rowlockref12_May.calls kj14 _ _ l0_0 _ _ l0_1 false _ ?side1 ?side2 ?side3 ?side4 A28.out).mono ?_); (case side1 => repeat (first | exact (Kd.C_below HR0_0.out HB.out) | (with_reducible refine Kd.C_alloc ?_ _) | (with_reducible refine Kd.C_drewN ?_ _) | (with_reducible refine Kd.C_drew ?_))); (case side2 => exact HC0_0.out); (case side3 => repeat (first | exact (Kd.C_below HR0_1.out HB.out) | (with_reducible refine Kd.C_alloc ?_ _) | (with_reducible refine Kd.C_drewN ?_ _) | (with_reducible refine Kd.C_drew ?_))); (case side4 => exact HC0_1.out); rintro e w119 ⟨rfl, hb⟩; refine ⟨_, rfl, ?_⟩; have n0_ := Aside0.mk (Kd.R_below HO_5.out hb); have n1_ := Aside0.mk (blk_below (g := gb154) (o := .cells #[.slice A0_0 l0_0.length c0_0, .slice A0_1 l0_1.length c0_1] 80 (0, 0)) BK154.out hb); have n2_ := Aside0.mk (below_step HB.out hb); clear HO_5; clear BK154; clear HB; have HO_5 := n0_; have BK154 := n1_; have HB := n2_; clear n0_ n1_ n2_; (try clear hb); (try clear hb2); (try clear hk); (try clear hi)) | ((with_reducible refine gate_callee (f := 27) rfl ?_); refine goesL_ (some 37) rfl rfl Try.func27 (by kernel_rfl) rfl #[] rfl (by (try simp only [List.map_toArray, List.map_cons, List.map_nil]); first | done | rfl) ?_; (with_reducible refine (rowlocklaw12_fixed.calls  false _ A108.out).mono ?_); rintro e w120 ⟨rfl, hb⟩; refine ⟨_, rfl, ?_⟩; have n0_ := Aside0.mk (Kd.R_below HO_5.out hb); have n1_ := Aside0.mk (blk_below (g := gb154) (o := .cells #[.slice A0_0 l0_0.length c0_0, .slice A0_1 l0_1.length c0_1] 80 (0, 0)) BK154.out hb); have n2_ := Aside0.mk (below_step HB.out hb); clear HO_5; clear BK154; clear HB; have HO_5 := n0_; have BK154 := n1_; have HB := n2_; clear n0_ n1_ n2_; (try clear hb); (try clear hb2); (try clear hk); (try clear hi)))
         go_ret
         exact ⟨by first | rfl | (simp [errW_none, errW_some] <;> rfl) | (simp [*, errW_none, errW_some] <;> rfl), by repeat (first | (with_reducible first | exact HB.out | apply below_alloc | apply pw_below_drewN | apply below_drew1 | refine below_set ?_ GE154.out) | exact HB.out)⟩

end Go.Proofs.Ytpfegfkniilobaa.XSchema
