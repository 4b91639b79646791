-- Written by this session's own program (wip/own_print.py) over the kit's print, with this session's hand-proved contracts in their places; Lean checks it.
import Derived.Test.YtpfegfkniilobaaBs
import Derived.Test.YtpfegfkniilobaaXSchemax0
namespace Go.Proofs.Ytpfegfkniilobaa.XSchema
open Go.RowKit Go.Proofs.YtpfegfkniilobaaW.PrintWords Go.Proofs.YtpfegfkniilobaaW.PrintLast Go.Proofs.YtpfegfkniilobaaW.PrintMore
attribute [local go_sem] max2_int min2_int max_two min_two max_three min_three max_four min_four   -- for this text's walks alone
set_option linter.unusedVariables false
set_option linter.unusedSimpArgs false

-- NOT PRINTED: function 7 (rowlocklaw12_SchemaSame)

-- NOT PRINTED: function 100 (schema_eye_take)

-- NOT PRINTED: function 74 (schema_eye_count)

-- NOT PRINTED: function 101 (schema_eye_text)

-- NOT PRINTED: function 102 (schema_eye_number)

-- NOT PRINTED: function 75 (schema_eye_table)

-- NOT PRINTED: function 76 (schema_eye_index)

-- NOT PRINTED: function 37 (schema_Get)

-- NOT PRINTED: function 8 (rowlocklaw12_SchemaPuts)

/-! ### rowlockref12_R_take: function 103 -/
def rowlockref12_R_take.f (a0_0 : ByteArray) (a0_1 : Bool) (a1 : Int) : Option (ByteArray × ByteArray × Bool) := if a0_1 = true then (if 0 ≤ a1 then (if (a1 : Int).toNat ≤ 281474976710656 then (some (strOfNums (List.replicate (a1 : Int).toNat 0), (⟨#[]⟩ : ByteArray), true)) else (none)) else (none)) else (if a1 > (a0_0.size : Int) then (if 0 ≤ a1 then (if (a1 : Int).toNat ≤ 281474976710656 then (some (strOfNums (List.replicate (a1 : Int).toNat 0), (⟨#[]⟩ : ByteArray), true)) else (none)) else (none)) else (if 0 ≤ a1 then (if a1 ≤ (a0_0.size : Int) then (some (a0_0.extract 0 (a1 : Int).toNat, a0_0.extract (a1 : Int).toNat a0_0.size, false)) else (none)) else (none)))
def rowlockref12_R_take.T3 : Bool × List (List Nat × List Nat) := (true, [([], []), ([0], [0]), ([], []), ([1, 2], [1, 2]), ([], []), ([4], [4]), ([], []), ([5, 6], [5, 6]), ([7], [7]), ([3, 0, 1, 2, 3], [3]), ([8, 9, 0, 1, 2, 3, 4, 5, 6, 7, 8, 9], [8])])
def rowlockref12_R_take.B3 : List Nat := [0, 1, 0, 7, 0, 16, 0, 112, 240, 15, 1023]
theorem rowlockref12_R_take.tab3 : rtab .any (opsOf Try.f103 3) = rowlockref12_R_take.T3 := by kernel_rfl
theorem rowlockref12_R_take.bits3 : waitsOk rowlockref12_R_take.T3.2 rowlockref12_R_take.B3 = true := by kernel_rfl
set_option maxHeartbeats 8000000 in
set_option maxRecDepth 100000 in
theorem rowlockref12_R_take.calls (a0_0 : ByteArray) (a0_1 : Bool) (a1 : Int) (r1 : ByteArray) (r2 : ByteArray) (r3 : Bool) (w : World) (h : rowlockref12_R_take.f a0_0 a0_1 a1 = some (r1, r2, r3)) :
  Calls Try.prog 103 #[.agg #[.string a0_0, .bool a0_1], .int .i64 a1] w fun e w' => e = .returned (.tuple #[.string r1, .agg #[.string r2, .bool r3]]) ∧ Below w.heap.size w w' := by
 have hu159 := Try.underlying159; have HB := Aside0.mk (Below.refl w.heap.size w); have H : (if a0_1 = true then (if 0 ≤ a1 then (if (a1 : Int).toNat ≤ 281474976710656 then (some (strOfNums (List.replicate (a1 : Int).toNat 0), (⟨#[]⟩ : ByteArray), true)) else (none)) else (none)) else (if a1 > (a0_0.size : Int) then (if 0 ≤ a1 then (if (a1 : Int).toNat ≤ 281474976710656 then (some (strOfNums (List.replicate (a1 : Int).toNat 0), (⟨#[]⟩ : ByteArray), true)) else (none)) else (none)) else (if 0 ≤ a1 then (if a1 ≤ (a0_0.size : Int) then (some (a0_0.extract 0 (a1 : Int).toNat, a0_0.extract (a1 : Int).toNat a0_0.size, false)) else (none)) else (none)))) = some (r1, r2, r3) := h; clear h
 by_cases c3 : a0_1 = true
 ·subst c3
  have H1 : (if 0 ≤ a1 then (if (a1 : Int).toNat ≤ 281474976710656 then (some (strOfNums (List.replicate (a1 : Int).toNat 0), (⟨#[]⟩ : ByteArray), true)) else (none)) else (none)) = some (r1, r2, r3) := by rw [if_pos rfl] at H; exact H
  clear H; have H := H1; clear H1
  by_cases c4 : 0 ≤ a1
  ·rw [if_pos c4] at H
   have c4b0 := eq_true c4; have c4b1 : decide (0 ≤ a1) = true := decide_eq_true c4; clear c4
   by_cases c5 : (a1 : Int).toNat ≤ 281474976710656
   ·rw [if_pos c5] at H
    have c5b0 := eq_true c5; have c5b1 : decide ((a1 : Int).toNat ≤ 281474976710656) = true := decide_eq_true c5; clear c5; obtain ⟨y279, hy279⟩ : ∃ y_ : List Int, y_ = (List.replicate (a1 : Int).toNat 0) := ⟨_, rfl⟩; replace H : (some (strOfNums y279, (⟨#[]⟩ : ByteArray), true)) = some (r1, r2, r3) := by first | (rw [hy279]; with_reducible exact H) | (have H2_ := (Option.bind_some _ _).symm.trans H; rw [hy279]; with_reducible exact H2_) | (have H2_ := (Option.bind_some _ _).symm.trans H; with_reducible exact H2_) | with_reducible exact H | (rw [hy279]; exact H) | exact H
    have Ny279 := Aside0.mk hy279; clear hy279; simp only [Option.some.injEq, Prod.mk.injEq] at H; obtain ⟨rfl, rfl, rfl⟩ := H
    go_enter Try.func103, Try.ntmps103
    go_wp2_with (first | ((with_reducible refine gate_dst (N := 2) rfl ?_); (try (refine gate_guard (by rfl) ?_; dsimp only)); refine box_event ?hg (N := 2) ?hd (cs := #[.string a0_0, .bool true]) (t := 159) ?hr ?_; (case hd => rfl); (case hg => rfl); (case hr => first | (go_simp; done) | (go_simp; rfl)); intro gb277 hg w6 hbox hb; have n0_ := Aside0.mk (below_step HB.out hb); have n1_ := Aside0.mk (hbox); have n2_ := Aside0.mk ((by rw [hg]; exact (below_size HB.out) : w.heap.size ≤ gb277)); have n3_ := Aside0.mk ((by rw [hg]; exact (below_size HB.out) : w.heap.size ≤ gb277)); clear HB; have HB := n0_; have BK277 := n1_; have GW277 := n2_; have GE277 := n3_; clear n0_ n1_ n2_ n3_; clear hb hbox hg) | ((with_reducible refine gate_dst (N := 5) rfl ?_); (try (refine gate_guard (by rfl) ?_; dsimp only)); refine box_event ?hg (N := 5) ?hd (cs := #[.string (⟨#[]⟩ : ByteArray), .bool false]) (t := 159) ?hr ?_; (case hd => rfl); (case hg => rfl); (case hr => first | (go_simp; done) | (go_simp; rfl)); intro gb278 hg w7 hbox hb; have n0_ := Aside0.mk (blk_below (g := gb277) (o := .cells #[.string a0_0, .bool true] 159 (0, 0)) BK277.out hb); have n1_ := Aside0.mk (below_step HB.out hb); have n2_ := Aside0.mk (hbox); have n3_ := Aside0.mk ((by rw [hg]; exact (below_size HB.out) : w.heap.size ≤ gb278)); have n4_ := Aside0.mk ((by rw [hg]; exact (below_size HB.out) : w.heap.size ≤ gb278)); have n5_ := Aside0.mk ((by rw [hg]; exact Nat.ne_of_lt (blk_lt (g := gb277) (o := .cells #[.string a0_0, .bool true] 159 (0, 0)) BK277.out) : gb277 ≠ gb278)); have n6_ := Aside0.mk ((by rw [hg]; exact Nat.ne_of_gt (blk_lt (g := gb277) (o := .cells #[.string a0_0, .bool true] 159 (0, 0)) BK277.out) : gb278 ≠ gb277)); clear BK277; clear HB; have BK277 := n0_; have HB := n1_; have BK278 := n2_; have GW278 := n3_; have GE278 := n4_; have NB277_278 := n5_; have NB278_277 := n6_; clear n0_ n1_ n2_ n3_ n4_ n5_ n6_; clear hb hbox hg; have hnb8 := NB277_278.out; have hnc8 := NB278_277.out; have hcz9_0 := (blk_cell BK277.out 0).trans rfl; have hcz9_1 := (blk_cell BK277.out 1).trans rfl; have hfz9_0 := blk_frozen BK277.out 0; have hfz9_1 := blk_frozen BK277.out 1) | ((with_reducible refine gate_dst (N := 16) rfl ?_); (try (refine gate_guard (by rfl) ?_; dsimp only)); refine Kd.R_make (Kd.int .u8) _ 5 rfl (N := 16) rfl 52 _ _ rfl a1 rfl rfl Try.underlying52 (.int .u8 0) 1 info5 rfl (by decide) (by omega) 0 (ok := fun _ => True) (okp := fun _ => True) rfl (fun _ hk => hk) trivial (of_decide_eq_true (by first | (with_reducible assumption) | assumption)) (Nat.le_trans (Nat.mul_le_mul_right _ (of_decide_eq_true (by first | (with_reducible assumption) | assumption) : a1.toNat ≤ 281474976710656)) (by omega)) (Below.refl _ _) (Nat.le_refl _) ?_; intro v280 w10 ho11 hb hg_ hnew_; clear hg_ hnew_; (first | rw [← Ny279.out] at ho11 | (simp only [Int.reduceToNat] at ho11; rw [← Ny279.out] at ho11)); have n0_ := Aside0.mk (Kd.R_lower ho11 (below_size HB.out)); have n1_ := Aside0.mk (blk_below (g := gb277) (o := .cells #[.string a0_0, .bool true] 159 (0, 0)) BK277.out hb); have n2_ := Aside0.mk (blk_below (g := gb278) (o := .cells #[.string (⟨#[]⟩ : ByteArray), .bool false] 159 (0, 0)) BK278.out hb); have n3_ := Aside0.mk (below_step HB.out hb); clear BK277; clear BK278; clear HB; have HO281 := n0_; have BK277 := n1_; have BK278 := n2_; have HB := n3_; clear n0_ n1_ n2_ n3_; clear hb ho11; have hcv12 := own_string (P := Try.prog) Try.underlying52 Try.underlying5 Try.underlying9 (Kd.own_of_R HO281.out); have hcz13_0 := (blk_cell BK278.out 0).trans rfl; have hcz13_1 := (blk_cell BK278.out 1).trans rfl; have hfz13_0 := blk_frozen BK278.out 0; have hfz13_1 := blk_frozen BK278.out 1))
    refine bodyPost_ret (results_tc rfl _ _ gb278 159 #[.string (⟨#[]⟩ : ByteArray), .bool true] (0, 0) _ rfl (by (with_reducible repeat (first | refine blk_drewN ?_ _ | refine blk_drew ?_ | refine blk_alloc ?_ _)); refine blk_put (cs := #[.string (⟨#[]⟩ : ByteArray), .bool false]) ?_ 1 _ rfl; (with_reducible repeat (first | refine blk_drewN ?_ _ | refine blk_drew ?_ | refine blk_alloc ?_ _)); refine blk_put (cs := #[.string (⟨#[]⟩ : ByteArray), .bool false]) ?_ 0 _ rfl; (with_reducible repeat (first | refine blk_drewN ?_ _ | refine blk_drew ?_ | refine blk_alloc ?_ _)); exact BK278.out) Try.underlying159 rfl (by kernel_rfl)) rfl ?_
    exact ⟨by first | rfl | (simp [errW_none, errW_some] <;> rfl) | (simp [*, errW_none, errW_some] <;> rfl), by repeat (first | (with_reducible first | exact HB.out | apply below_alloc | apply pw_below_drewN | apply below_drew1 | refine below_set ?_ GE277.out | refine below_set ?_ GE278.out) | exact HB.out)⟩
   ·rw [if_neg c5] at H
    exact absurd H (by simp)
  ·rw [if_neg c4] at H
   exact absurd H (by simp)
 ·replace c3 := Bool.eq_false_iff.mpr c3
  subst c3; have H1 : (if a1 > (a0_0.size : Int) then (if 0 ≤ a1 then (if (a1 : Int).toNat ≤ 281474976710656 then (some (strOfNums (List.replicate (a1 : Int).toNat 0), (⟨#[]⟩ : ByteArray), true)) else (none)) else (none)) else (if 0 ≤ a1 then (if a1 ≤ (a0_0.size : Int) then (some (a0_0.extract 0 (a1 : Int).toNat, a0_0.extract (a1 : Int).toNat a0_0.size, false)) else (none)) else (none))) = some (r1, r2, r3) := by rw [if_neg (show ¬ (false = true) by decide)] at H; exact H
  clear H; have H := H1; clear H1
  by_cases c14 : a1 > (a0_0.size : Int)
  ·rw [if_pos c14] at H
   have c14b0 : decide ((a0_0.size : Int) < a1) = true := decide_eq_true c14; clear c14
   by_cases c15 : 0 ≤ a1
   ·rw [if_pos c15] at H
    have c15b0 := eq_true c15; have c15b1 : decide (0 ≤ a1) = true := decide_eq_true c15; clear c15
    by_cases c16 : (a1 : Int).toNat ≤ 281474976710656
    ·rw [if_pos c16] at H
     have c16b0 := eq_true c16; have c16b1 : decide ((a1 : Int).toNat ≤ 281474976710656) = true := decide_eq_true c16; clear c16; obtain ⟨y282, hy282⟩ : ∃ y_ : List Int, y_ = (List.replicate (a1 : Int).toNat 0) := ⟨_, rfl⟩; replace H : (some (strOfNums y282, (⟨#[]⟩ : ByteArray), true)) = some (r1, r2, r3) := by first | (rw [hy282]; with_reducible exact H) | (have H2_ := (Option.bind_some _ _).symm.trans H; rw [hy282]; with_reducible exact H2_) | (have H2_ := (Option.bind_some _ _).symm.trans H; with_reducible exact H2_) | with_reducible exact H | (rw [hy282]; exact H) | exact H
     have Ny282 := Aside0.mk hy282; clear hy282; simp only [Option.some.injEq, Prod.mk.injEq] at H; obtain ⟨rfl, rfl, rfl⟩ := H
     go_enter Try.func103, Try.ntmps103
     go_wp2_with (first | ((with_reducible refine gate_dst (N := 2) rfl ?_); (try (refine gate_guard (by rfl) ?_; dsimp only)); refine box_event ?hg (N := 2) ?hd (cs := #[.string a0_0, .bool false]) (t := 159) ?hr ?_; (case hd => rfl); (case hg => rfl); (case hr => first | (go_simp; done) | (go_simp; rfl)); intro gb277 hg w17 hbox hb; have n0_ := Aside0.mk (below_step HB.out hb); have n1_ := Aside0.mk (hbox); have n2_ := Aside0.mk ((by rw [hg]; exact (below_size HB.out) : w.heap.size ≤ gb277)); have n3_ := Aside0.mk ((by rw [hg]; exact (below_size HB.out) : w.heap.size ≤ gb277)); clear HB; have HB := n0_; have BK277 := n1_; have GW277 := n2_; have GE277 := n3_; clear n0_ n1_ n2_ n3_; clear hb hbox hg) | ((with_reducible refine gate_dst (N := 5) rfl ?_); (try (refine gate_guard (by rfl) ?_; dsimp only)); refine box_event ?hg (N := 5) ?hd (cs := #[.string (⟨#[]⟩ : ByteArray), .bool false]) (t := 159) ?hr ?_; (case hd => rfl); (case hg => rfl); (case hr => first | (go_simp; done) | (go_simp; rfl)); intro gb278 hg w18 hbox hb; have n0_ := Aside0.mk (blk_below (g := gb277) (o := .cells #[.string a0_0, .bool false] 159 (0, 0)) BK277.out hb); have n1_ := Aside0.mk (below_step HB.out hb); have n2_ := Aside0.mk (hbox); have n3_ := Aside0.mk ((by rw [hg]; exact (below_size HB.out) : w.heap.size ≤ gb278)); have n4_ := Aside0.mk ((by rw [hg]; exact (below_size HB.out) : w.heap.size ≤ gb278)); have n5_ := Aside0.mk ((by rw [hg]; exact Nat.ne_of_lt (blk_lt (g := gb277) (o := .cells #[.string a0_0, .bool false] 159 (0, 0)) BK277.out) : gb277 ≠ gb278)); have n6_ := Aside0.mk ((by rw [hg]; exact Nat.ne_of_gt (blk_lt (g := gb277) (o := .cells #[.string a0_0, .bool false] 159 (0, 0)) BK277.out) : gb278 ≠ gb277)); clear BK277; clear HB; have BK277 := n0_; have HB := n1_; have BK278 := n2_; have GW278 := n3_; have GE278 := n4_; have NB277_278 := n5_; have NB278_277 := n6_; clear n0_ n1_ n2_ n3_ n4_ n5_ n6_; clear hb hbox hg; have hnb19 := NB277_278.out; have hnc19 := NB278_277.out; have hcz20_0 := (blk_cell BK277.out 0).trans rfl; have hcz20_1 := (blk_cell BK277.out 1).trans rfl; have hfz20_0 := blk_frozen BK277.out 0; have hfz20_1 := blk_frozen BK277.out 1) | ((with_reducible refine gate_dst (N := 16) rfl ?_); (try (refine gate_guard (by rfl) ?_; dsimp only)); refine Kd.R_make (Kd.int .u8) _ 5 rfl (N := 16) rfl 52 _ _ rfl a1 rfl rfl Try.underlying52 (.int .u8 0) 1 info5 rfl (by decide) (by omega) 0 (ok := fun _ => True) (okp := fun _ => True) rfl (fun _ hk => hk) trivial (of_decide_eq_true (by first | (with_reducible assumption) | assumption)) (Nat.le_trans (Nat.mul_le_mul_right _ (of_decide_eq_true (by first | (with_reducible assumption) | assumption) : a1.toNat ≤ 281474976710656)) (by omega)) (Below.refl _ _) (Nat.le_refl _) ?_; intro v283 w21 ho22 hb hg_ hnew_; clear hg_ hnew_; (first | rw [← Ny282.out] at ho22 | (simp only [Int.reduceToNat] at ho22; rw [← Ny282.out] at ho22)); have n0_ := Aside0.mk (Kd.R_lower ho22 (below_size HB.out)); have n1_ := Aside0.mk (blk_below (g := gb277) (o := .cells #[.string a0_0, .bool false] 159 (0, 0)) BK277.out hb); have n2_ := Aside0.mk (blk_below (g := gb278) (o := .cells #[.string (⟨#[]⟩ : ByteArray), .bool false] 159 (0, 0)) BK278.out hb); have n3_ := Aside0.mk (below_step HB.out hb); clear BK277; clear BK278; clear HB; have HO284 := n0_; have BK277 := n1_; have BK278 := n2_; have HB := n3_; clear n0_ n1_ n2_ n3_; clear hb ho22; have hcv23 := own_string (P := Try.prog) Try.underlying52 Try.underlying5 Try.underlying9 (Kd.own_of_R HO284.out); have hcz24_0 := (blk_cell BK278.out 0).trans rfl; have hcz24_1 := (blk_cell BK278.out 1).trans rfl; have hfz24_0 := blk_frozen BK278.out 0; have hfz24_1 := blk_frozen BK278.out 1))
     refine bodyPost_ret (results_tc rfl _ _ gb278 159 #[.string (⟨#[]⟩ : ByteArray), .bool true] (0, 0) _ rfl (by (with_reducible repeat (first | refine blk_drewN ?_ _ | refine blk_drew ?_ | refine blk_alloc ?_ _)); refine blk_put (cs := #[.string (⟨#[]⟩ : ByteArray), .bool false]) ?_ 1 _ rfl; (with_reducible repeat (first | refine blk_drewN ?_ _ | refine blk_drew ?_ | refine blk_alloc ?_ _)); refine blk_put (cs := #[.string (⟨#[]⟩ : ByteArray), .bool false]) ?_ 0 _ rfl; (with_reducible repeat (first | refine blk_drewN ?_ _ | refine blk_drew ?_ | refine blk_alloc ?_ _)); exact BK278.out) Try.underlying159 rfl (by kernel_rfl)) rfl ?_
     exact ⟨by first | rfl | (simp [errW_none, errW_some] <;> rfl) | (simp [*, errW_none, errW_some] <;> rfl), by repeat (first | (with_reducible first | exact HB.out | apply below_alloc | apply pw_below_drewN | apply below_drew1 | refine below_set ?_ GE277.out | refine below_set ?_ GE278.out) | exact HB.out)⟩
    ·rw [if_neg c16] at H
     exact absurd H (by simp)
   ·rw [if_neg c15] at H
    exact absurd H (by simp)
  ·rw [if_neg c14] at H
   have c14b0 : decide ((a0_0.size : Int) < a1) = false := decide_eq_false c14; clear c14
   by_cases c25 : 0 ≤ a1
   ·rw [if_pos c25] at H
    have c25b0 := eq_true c25; have c25b1 : decide (0 ≤ a1) = true := decide_eq_true c25; clear c25
    by_cases c26 : a1 ≤ (a0_0.size : Int)
    ·rw [if_pos c26] at H
     have c26b0 := eq_true c26; have c26b1 : decide (a1 ≤ (a0_0.size : Int)) = true := decide_eq_true c26; clear c26; have c27b0 := eq_true (of_decide_eq_true (by first | (with_reducible assumption) | assumption) : 0 ≤ a1); have c28b0 := eq_true (of_decide_eq_true (by first | (with_reducible assumption) | assumption) : a1 ≤ (a0_0.size : Int)); simp only [Option.some.injEq, Prod.mk.injEq] at H; obtain ⟨rfl, rfl, rfl⟩ := H
     go_enter Try.func103, Try.ntmps103
     try go_wp2_with (first | ((with_reducible refine gate_dst (N := 2) rfl ?_); (try (refine gate_guard (by rfl) ?_; dsimp only)); refine box_event ?hg (N := 2) ?hd (cs := #[.string a0_0, .bool false]) (t := 159) ?hr ?_; (case hd => rfl); (case hg => rfl); (case hr => first | (go_simp; done) | (go_simp; rfl)); intro gb277 hg w29 hbox hb; have n0_ := Aside0.mk (below_step HB.out hb); have n1_ := Aside0.mk (hbox); have n2_ := Aside0.mk ((by rw [hg]; exact (below_size HB.out) : w.heap.size ≤ gb277)); have n3_ := Aside0.mk ((by rw [hg]; exact (below_size HB.out) : w.heap.size ≤ gb277)); clear HB; have HB := n0_; have BK277 := n1_; have GW277 := n2_; have GE277 := n3_; clear n0_ n1_ n2_ n3_; clear hb hbox hg) | ((with_reducible refine gate_dst (N := 5) rfl ?_); (try (refine gate_guard (by rfl) ?_; dsimp only)); refine box_event ?hg (N := 5) ?hd (cs := #[.string (⟨#[]⟩ : ByteArray), .bool false]) (t := 159) ?hr ?_; (case hd => rfl); (case hg => rfl); (case hr => first | (go_simp; done) | (go_simp; rfl)); intro gb278 hg w30 hbox hb; have n0_ := Aside0.mk (blk_below (g := gb277) (o := .cells #[.string a0_0, .bool false] 159 (0, 0)) BK277.out hb); have n1_ := Aside0.mk (below_step HB.out hb); have n2_ := Aside0.mk (hbox); have n3_ := Aside0.mk ((by rw [hg]; exact (below_size HB.out) : w.heap.size ≤ gb278)); have n4_ := Aside0.mk ((by rw [hg]; exact (below_size HB.out) : w.heap.size ≤ gb278)); have n5_ := Aside0.mk ((by rw [hg]; exact Nat.ne_of_lt (blk_lt (g := gb277) (o := .cells #[.string a0_0, .bool false] 159 (0, 0)) BK277.out) : gb277 ≠ gb278)); have n6_ := Aside0.mk ((by rw [hg]; exact Nat.ne_of_gt (blk_lt (g := gb277) (o := .cells #[.string a0_0, .bool false] 159 (0, 0)) BK277.out) : gb278 ≠ gb277)); clear BK277; clear HB; have BK277 := n0_; have HB := n1_; have BK278 := n2_; have GW278 := n3_; have GE278 := n4_; have NB277_278 := n5_; have NB278_277 := n6_; clear n0_ n1_ n2_ n3_ n4_ n5_ n6_; clear hb hbox hg; have hnb31 := NB277_278.out; have hnc31 := NB278_277.out; have hcz32_0 := (blk_cell BK277.out 0).trans rfl; have hcz32_1 := (blk_cell BK277.out 1).trans rfl; have hfz32_0 := blk_frozen BK277.out 0; have hfz32_1 := blk_frozen BK277.out 1))
     have n0_ := Aside0.mk (blk_drew BK277.out); have n1_ := Aside0.mk (blk_drew BK278.out); have n2_ := Aside0.mk (below_drew1 HB.out); clear BK277; clear BK278; clear HB; have BK277 := n0_; have BK278 := n1_; have HB := n2_; clear n0_ n1_ n2_; refine start_ (n := 11) (S := fun w' => w'.cell? ⟨gb277, 0, none⟩ = some (.string a0_0) ∧ w'.cell? ⟨gb277, 1, none⟩ = some (.bool false)) (ds := []) #[false, false, false, false, false, false, false, false, false, false, false] (by kernel_rfl) rfl rfl ⟨(blk_cell BK277.out 0).trans rfl, (blk_cell BK277.out 1).trans rfl⟩ (fun hHeld => ?_); refine with_tabW rowlockref12_R_take.tab3 rowlockref12_R_take.bits3 (fun HT_ HW_ => ?_); generalize w30.drew = w33 at BK277 BK278 HB hHeld ⊢; refine pure_ (i := 0) (N := some 19) (v := ?_) (a' := ?_) (bs 11 1) rfl rfl (any_of HT_.out (by kernel_rfl)) (fun _ _ _ h => h) (Or.inl ⟨by rfl, ?_⟩) ?_ ?_; rotate_left
     ·intro w'
      go_simp
      with_reducible rfl
     rotate_left
     ·simp only [Act.put, List.setIfInBounds_toArray, List.set_cons_zero, List.set_cons_succ, i64_w, i32_w]
      rfl
     refine pure_ (i := 2) (N := some 21) (v := ?_) (a' := ?_) (bs 11 5) rfl rfl (any_of HT_.out (by kernel_rfl)) (fun _ _ _ h => h) (Or.inl ⟨by rfl, ?_⟩) ?_ ?_; rotate_left
     ·intro w'
      go_simp
      with_reducible rfl
     rotate_left
     ·simp only [Act.put, List.setIfInBounds_toArray, List.set_cons_zero, List.set_cons_succ, i64_w, i32_w]
      rfl
     refine pure_ (i := 4) (N := some 23) (v := ?_) (a' := ?_) (bs 11 21) rfl rfl (any_of HT_.out (by kernel_rfl)) (fun _ _ _ h => h) (Or.inl ⟨by rfl, ?_⟩) ?_ ?_; rotate_left
     ·intro w'
      go_simp
      with_reducible rfl
     rotate_left
     ·simp only [Act.put, List.setIfInBounds_toArray, List.set_cons_zero, List.set_cons_succ, i64_w, i32_w]
      rfl
     refine pure_ (i := 6) (N := some 25) (v := ?_) (a' := ?_) (bs 11 85) rfl rfl (any_of HT_.out (by kernel_rfl)) (fun _ _ _ h => h) (Or.inl ⟨by rfl, ?_⟩) ?_ ?_; rotate_left
     ·intro w'
      go_simp
      with_reducible rfl
     rotate_left
     ·simp only [Act.put, List.setIfInBounds_toArray, List.set_cons_zero, List.set_cons_succ, i64_w, i32_w]
      rfl
     refine take_ (i := 1) (N := some 20) (v := ?_) (a' := ?_) (bs 11 87) rfl rfl (take_ofW HT_.out HW_.out (by kernel_rfl)) (fun _ _ _ h => h) (Or.inl ⟨by rfl, ?_⟩) hHeld ?_ ?_; rotate_left
     ·rintro w' ⟨s0, s1⟩
      go_simp
      with_reducible rfl
     rotate_left
     ·simp only [Act.put, List.setIfInBounds_toArray, List.set_cons_zero, List.set_cons_succ, i64_w, i32_w]
      rfl
     refine pure_ (i := 3) (N := some 22) (v := ?_) (a' := ?_) (bs 11 95) rfl rfl (any_of HT_.out (by kernel_rfl)) (fun _ _ _ h => h) (Or.inl ⟨by rfl, ?_⟩) ?_ ?_; rotate_left
     ·intro w'
      go_simp
      with_reducible rfl
     rotate_left
     ·simp only [Act.put, List.setIfInBounds_toArray, List.set_cons_zero, List.set_cons_succ, i64_w, i32_w]
      rfl
     refine pure_ (i := 9) (N := some 4) (v := ?_) (a' := ?_) (bs 11 607) rfl rfl (any_of HT_.out (by kernel_rfl)) (fun _ _ _ h => h) (Or.inl ⟨by rfl, ?_⟩) ?_ ?_; rotate_left
     ·intro w'
      go_simp
      with_reducible rfl
     rotate_left
     ·simp only [Act.put, List.setIfInBounds_toArray, List.set_cons_zero, List.set_cons_succ, i64_w, i32_w]
      rfl
     refine take_ (i := 5) (N := some 24) (v := ?_) (a' := ?_) (bs 11 639) rfl rfl (take_ofW HT_.out HW_.out (by kernel_rfl)) (fun _ _ _ h => h) (Or.inl ⟨by rfl, ?_⟩) hHeld ?_ ?_; rotate_left
     ·rintro w' ⟨s0, s1⟩
      go_simp
      with_reducible rfl
     rotate_left
     ·simp only [Act.put, List.setIfInBounds_toArray, List.set_cons_zero, List.set_cons_succ, i64_w, i32_w]
      rfl
     refine pure_ (i := 7) (N := some 26) (v := ?_) (a' := ?_) (bs 11 767) rfl rfl (any_of HT_.out (by kernel_rfl)) (fun _ _ _ h => h) (Or.inl ⟨by rfl, ?_⟩) ?_ ?_; rotate_left
     ·intro w'
      go_simp
      with_reducible rfl
     rotate_left
     ·simp only [Act.put, List.setIfInBounds_toArray, List.set_cons_zero, List.set_cons_succ, i64_w, i32_w]
      rfl
     refine pure_ (i := 8) (N := some 27) (v := ?_) (a' := ?_) (bs 11 1023) rfl rfl (any_of HT_.out (by kernel_rfl)) (fun _ _ _ h => h) (Or.inl ⟨by rfl, ?_⟩) ?_ ?_; rotate_left
     ·intro w'
      go_simp
      with_reducible rfl
     rotate_left
     ·simp only [Act.put, List.setIfInBounds_toArray, List.set_cons_zero, List.set_cons_succ, i64_w, i32_w]
      rfl
     refine one_ (i := 10) (N := none) (bs 11 2047) rfl rfl (one_of HT_.out (by kernel_rfl)) (by decide) (fun K hK => ?_); have hs34 : w33.cell? ⟨gb278, 0, none⟩ = some (.string (⟨#[]⟩ : ByteArray)) := (blk_cell BK278.out 0).trans rfl; have hfs34 := blk_frozen BK278.out 0; have hns34_0 := NB277_278.out; have hms34_0 := NB278_277.out; have hs35 : w33.cell? ⟨gb278, 1, none⟩ = some (.bool false) := (blk_cell BK278.out 1).trans rfl; have hfs35 := blk_frozen BK278.out 1; have hns35_0 := NB277_278.out; have hms35_0 := NB278_277.out; refine skip_ (w1 := ?_) (by rfl) rfl ?_ ?_; rotate_left
     ·go_simp
      rfl
     refine hK.out _ _ ⟨((cell_far (p := ⟨gb278, _, none⟩) NB277_278.out _).trans (((cell_far (p := ⟨gb278, _, none⟩) NB277_278.out _).trans (hHeld.1)))), ((cell_far (p := ⟨gb278, _, none⟩) NB277_278.out _).trans (((cell_far (p := ⟨gb278, _, none⟩) NB277_278.out _).trans (hHeld.2))))⟩ (fun hHeld => ?_); clear hK K; refine done_ (done_of HT_.out (by kernel_rfl)) ?_
     try go_wp2
     refine bodyPost_ret (results_tc rfl _ _ gb278 159 #[.string (a0_0.extract (a1 : Int).toNat a0_0.size), .bool false] (0, 0) _ rfl (by (with_reducible repeat (first | refine blk_drewN ?_ _ | refine blk_drew ?_ | refine blk_alloc ?_ _)); refine blk_put (cs := #[.string (a0_0.extract (a1 : Int).toNat a0_0.size), .bool false]) ?_ 1 _ rfl; (with_reducible repeat (first | refine blk_drewN ?_ _ | refine blk_drew ?_ | refine blk_alloc ?_ _)); refine blk_put (cs := #[.string (⟨#[]⟩ : ByteArray), .bool false]) ?_ 0 _ rfl; (with_reducible repeat (first | refine blk_drewN ?_ _ | refine blk_drew ?_ | refine blk_alloc ?_ _)); exact BK278.out) Try.underlying159 rfl (by kernel_rfl)) rfl ?_
     exact ⟨by first | rfl | (simp [errW_none, errW_some] <;> rfl) | (simp [*, errW_none, errW_some] <;> rfl), by repeat (first | (with_reducible first | exact HB.out | apply below_alloc | apply pw_below_drewN | apply below_drew1 | refine below_set ?_ GE277.out | refine below_set ?_ GE278.out) | exact HB.out)⟩
    ·rw [if_neg c26] at H
     exact absurd H (by simp)
   ·rw [if_neg c25] at H
    exact absurd H (by simp)

/-! ### rowlockref06_Value: function 104 -/
def rowlockref06_Value.l0 : Nat → ByteArray → Int → Int → Option (Int)
 | 0, _, _, _ => none
 | k + 1, x0, x3, x4 => if x4 < (x0.size : Int) then (if 0 ≤ x4 then (rowlockref06_Value.l0 k x0 (IntKind.u64.wrap ((IntKind.u64.wrap (256 * x3)) + (IntKind.u64.wrap (bt x0 x4)))) (wrap64 (x4 + 1))) else (none)) else (some x3)
def rowlockref06_Value.f (k : Nat) (a0 : ByteArray) : Option (Int) := rowlockref06_Value.l0 k a0 0 0
theorem rowlockref06_Value.mono_l : ∀ k, (∀ y0 y1 y2, LeO (rowlockref06_Value.l0 k y0 y1 y2) (rowlockref06_Value.l0 (k + 1) y0 y1 y2))
 | 0 => fun _ _ _ r h => by simp [rowlockref06_Value.l0] at h
 | k + 1 => by
  have ih0 := rowlockref06_Value.mono_l k
  ·intro y0 y1 y2
   unfold rowlockref06_Value.l0
   repeat' first
   | (with_reducible exact ih0 _ _ _)
   | (with_reducible exact LeO.refl _)
   | (with_reducible exact LeO.none _)
   | (with_reducible refine LeO.ite ?_ ?_)
   | (with_reducible refine LeO.bind ?_ (fun _ => ?_))
   | exact ih0 _ _ _
   | exact LeO.none _
   | refine LeO.ite ?_ ?_
   | refine LeO.bind ?_ (fun _ => ?_)
theorem rowlockref06_Value.mono : ∀ a0 k, LeO (rowlockref06_Value.f k a0) (rowlockref06_Value.f (k + 1) a0) := by
 intro a0 k; have ih0 := rowlockref06_Value.mono_l k
 unfold rowlockref06_Value.f
 repeat' first
   | (with_reducible exact ih0 _ _ _)
   | (with_reducible exact LeO.refl _)
   | (with_reducible exact LeO.none _)
   | (with_reducible refine LeO.ite ?_ ?_)
   | (with_reducible refine LeO.bind ?_ (fun _ => ?_))
   | exact ih0 _ _ _
   | exact LeO.none _
   | refine LeO.ite ?_ ?_
   | refine LeO.bind ?_ (fun _ => ?_)
set_option maxHeartbeats 8000000 in
set_option maxRecDepth 100000 in
theorem rowlockref06_Value.calls (k : Nat) (a0 : ByteArray) (r : Int) (w : World) (h : rowlockref06_Value.f k a0 = some r) :
  Calls Try.prog 104 #[.string a0] w fun e w' => e = .returned (.int .u64 r) ∧ Drawn0 w w' := by
 have H : (rowlockref06_Value.l0 k a0 0 0) = some r := h; clear h; have H' := Aside0.mk H; clear H
 go_enter Try.func104, Try.ntmps104
 go_wp2
 go_loopg [3, 4] k (fun kq v3 v4 w' => ∃ (x3_1 : Int) (x4_1 : Int), v3 = .int .u64 x3_1 ∧ v4 = .int .i64 x4_1 ∧ Aside0 (rowlockref06_Value.l0 kq a0 x3_1 x4_1 = some r) ∧ Aside0 (kq ≤ k) ∧ Drawn0 w w')
 case atStart => exact ⟨(0), (0), (by first | rfl | (simp; done) | (simp [*]; done)), (by first | rfl | (simp; done) | (simp [*]; done)), H', ⟨Nat.le_refl _⟩, by repeat (first | exact Drawn0.refl _ | apply Drawn0.step)⟩
 case round =>
  clear H'; (try clear c1); obtain ⟨x3_1, x4_1, rfl, rfl, HA, HK1, ⟨m1, rfl⟩⟩ := hrel
  cases gk with
  | zero => exact absurd HA.out (by simp [rowlockref06_Value.l0])
  | succ k1 =>
   have H := HA.out; clear HA; simp only [rowlockref06_Value.l0] at H
   by_cases c2 : x4_1 < (a0.size : Int)
   ·rw [if_pos c2] at H
    have c2b0 : decide (x4_1 < (a0.size : Int)) = true := decide_eq_true c2; clear c2
    by_cases c3 : 0 ≤ x4_1
    ·rw [if_pos c3] at H
     have c3b0 : decide (0 ≤ x4_1) = true := decide_eq_true c3; clear c3; have H' := Aside0.mk H; clear H; have p4 : 0 ≤ (x4_1 : Int) := of_decide_eq_true (by first | (with_reducible assumption) | assumption); have q4 : x4_1 < (a0.size : Int) := of_decide_eq_true (by first | (with_reducible assumption) | assumption); have hx4 := bt_at a0 x4_1; replace p4 := eq_true p4; have p4D := p4; try simp only [List.length_drop, List.length_take] at p4D
     replace q4 := eq_true q4; have q4D := q4; try simp only [List.length_drop, List.length_take] at q4D
     go_wp2
     go_roundg k1
     case measure => have := HK1.out; omega
     case rel => exact ⟨(IntKind.u64.wrap ((IntKind.u64.wrap (256 * x3_1)) + (IntKind.u64.wrap (bt a0 x4_1)))), (wrap64 (x4_1 + 1)), (by first | rfl | (simp; done) | (simp [*]; done)), (by first | rfl | (simp; done) | (simp [*]; done)), H', ⟨by have := HK1.out; omega⟩, by repeat (first | exact Drawn0.refl _ | apply Drawn0.step)⟩
    ·rw [if_neg c3] at H
     exact absurd H (by simp)
   ·rw [if_neg c2] at H
    have c2b0 : decide (x4_1 < (a0.size : Int)) = false := decide_eq_false c2; clear c2; obtain rfl := Option.some.inj H
    go_wp2
    go_ret
    exact ⟨by first | rfl | (simp; done) | (simp [*]; done), by repeat (first | exact Drawn0.refl _ | apply Drawn0.step)⟩

/-! ### rowlockref12_R_number: function 77 -/
def rowlockref12_R_number.f (k : Nat) (a0_0 : ByteArray) (a0_1 : Bool) (a1 : Int) : Option (Int × ByteArray × Bool) := (rowlockref12_R_take.f a0_0 a0_1 a1).bind fun bt287 => ((rowlockref06_Value.f k bt287.1).bind fun t291 => (some (wrap64 (t291), bt287.2.1, bt287.2.2)))
theorem rowlockref12_R_number.mono : ∀ a0 a1 a2 k, LeO (rowlockref12_R_number.f k a0 a1 a2) (rowlockref12_R_number.f (k + 1) a0 a1 a2) := by
 intro a0 a1 a2 k
 unfold rowlockref12_R_number.f
 repeat' first
   | (with_reducible exact rowlockref06_Value.mono _ _)
   | (with_reducible exact LeO.refl _)
   | (with_reducible exact LeO.none _)
   | (with_reducible refine LeO.ite ?_ ?_)
   | (with_reducible refine LeO.bind ?_ (fun _ => ?_))
   | exact rowlockref06_Value.mono _ _
   | exact LeO.none _
   | refine LeO.ite ?_ ?_
   | refine LeO.bind ?_ (fun _ => ?_)
set_option maxHeartbeats 8000000 in
set_option maxRecDepth 100000 in
theorem rowlockref12_R_number.calls (k : Nat) (a0_0 : ByteArray) (a0_1 : Bool) (a1 : Int) (r1 : Int) (r2 : ByteArray) (r3 : Bool) (w : World) (h : rowlockref12_R_number.f k a0_0 a0_1 a1 = some (r1, r2, r3)) :
  Calls Try.prog 77 #[.agg #[.string a0_0, .bool a0_1], .int .i64 a1] w fun e w' => e = .returned (.tuple #[.int .i64 r1, .agg #[.string r2, .bool r3]]) ∧ Below w.heap.size w w' := by
 have hu159 := Try.underlying159; have HB := Aside0.mk (Below.refl w.heap.size w); have H : ((rowlockref12_R_take.f a0_0 a0_1 a1).bind fun bt287 => ((rowlockref06_Value.f k bt287.1).bind fun t291 => (some (wrap64 (t291), bt287.2.1, bt287.2.2)))) = some (r1, r2, r3) := h; clear h; replace H := Option.bind_eq_some_iff.mp H; obtain ⟨⟨t287, t288, t289⟩, A30, H⟩ := H; replace H : ((rowlockref06_Value.f k t287).bind fun t291 => (some (wrap64 (t291), t288, t289))) = some (r1, r2, r3) := H; have A3 := Aside0.mk A30; clear A30; replace H := Option.bind_eq_some_iff.mp H; obtain ⟨t291, A40, H⟩ := H; replace H : (some (wrap64 (t291), t288, t289)) = some (r1, r2, r3) := H; have A4 := Aside0.mk A40; clear A40; simp only [Option.some.injEq, Prod.mk.injEq] at H; obtain ⟨rfl, rfl, rfl⟩ := H
 go_enter Try.func77, Try.ntmps77
 try go_wp2_with (first | ((with_reducible refine gate_dst (N := 2) rfl ?_); refine box_event ?hg (N := 2) ?hd (cs := #[.string a0_0, .bool a0_1]) (t := 159) ?hr ?_; (case hd => rfl); (case hg => rfl); (case hr => first | (go_simp; done) | (go_simp; rfl)); intro gb285 hg w5 hbox hb; have n0_ := Aside0.mk (below_step HB.out hb); have n1_ := Aside0.mk (hbox); have n2_ := Aside0.mk ((by rw [hg]; exact (below_size HB.out) : w.heap.size ≤ gb285)); have n3_ := Aside0.mk ((by rw [hg]; exact (below_size HB.out) : w.heap.size ≤ gb285)); clear HB; have HB := n0_; have BK285 := n1_; have GW285 := n2_; have GE285 := n3_; clear n0_ n1_ n2_ n3_; clear hb hbox hg) | ((with_reducible refine gate_dst (N := 5) rfl ?_); refine box_event ?hg (N := 5) ?hd (cs := #[.string (⟨#[]⟩ : ByteArray), .bool false]) (t := 159) ?hr ?_; (case hd => rfl); (case hg => rfl); (case hr => first | (go_simp; done) | (go_simp; rfl)); intro gb286 hg w6 hbox hb; have n0_ := Aside0.mk (blk_below (g := gb285) (o := .cells #[.string a0_0, .bool a0_1] 159 (0, 0)) BK285.out hb); have n1_ := Aside0.mk (below_step HB.out hb); have n2_ := Aside0.mk (hbox); have n3_ := Aside0.mk ((by rw [hg]; exact (below_size HB.out) : w.heap.size ≤ gb286)); have n4_ := Aside0.mk ((by rw [hg]; exact (below_size HB.out) : w.heap.size ≤ gb286)); have n5_ := Aside0.mk ((by rw [hg]; exact Nat.ne_of_lt (blk_lt (g := gb285) (o := .cells #[.string a0_0, .bool a0_1] 159 (0, 0)) BK285.out) : gb285 ≠ gb286)); have n6_ := Aside0.mk ((by rw [hg]; exact Nat.ne_of_gt (blk_lt (g := gb285) (o := .cells #[.string a0_0, .bool a0_1] 159 (0, 0)) BK285.out) : gb286 ≠ gb285)); clear BK285; clear HB; have BK285 := n0_; have HB := n1_; have BK286 := n2_; have GW286 := n3_; have GE286 := n4_; have NB285_286 := n5_; have NB286_285 := n6_; clear n0_ n1_ n2_ n3_ n4_ n5_ n6_; clear hb hbox hg; have hnb7 := NB285_286.out; have hnc7 := NB286_285.out; have hcz8_0 := (blk_cell BK285.out 0).trans rfl; have hcz8_1 := (blk_cell BK285.out 1).trans rfl; have hfz8_0 := blk_frozen BK285.out 0; have hfz8_1 := blk_frozen BK285.out 1) | ((with_reducible refine gate_callee (f := 103) rfl ?_); refine goesL_ (some 11) rfl rfl Try.func103 (by kernel_rfl) rfl #[.agg #[.string a0_0, .bool a0_1], .int .i64 a1] rfl (by (try simp only [List.map_toArray, List.map_cons, List.map_nil]); first | done | rfl) ?_; (with_reducible refine (rowlockref12_R_take.calls a0_0 a0_1 a1 t287 t288 t289 _ A3.out).mono ?_); rintro e w9 ⟨rfl, hb⟩; refine ⟨_, rfl, ?_⟩; have n0_ := Aside0.mk (blk_below (g := gb285) (o := .cells #[.string a0_0, .bool a0_1] 159 (0, 0)) BK285.out hb); have n1_ := Aside0.mk (blk_below (g := gb286) (o := .cells #[.string (⟨#[]⟩ : ByteArray), .bool false] 159 (0, 0)) BK286.out hb); have n2_ := Aside0.mk (below_step HB.out hb); clear BK285; clear BK286; clear HB; have BK285 := n0_; have BK286 := n1_; have HB := n2_; clear n0_ n1_ n2_; (try clear hb); (try clear hb2); (try clear hk); (try clear hi)) | ((with_reducible refine gate_dst (N := 7) rfl ?_); refine box_event ?hg (N := 7) ?hd (cs := #[.string (⟨#[]⟩ : ByteArray), .bool false]) (t := 159) ?hr ?_; (case hd => rfl); (case hg => rfl); (case hr => first | (go_simp; done) | (go_simp; rfl)); intro gb290 hg w10 hbox hb; have n0_ := Aside0.mk (blk_below (g := gb285) (o := .cells #[.string a0_0, .bool a0_1] 159 (0, 0)) BK285.out hb); have n1_ := Aside0.mk (blk_below (g := gb286) (o := .cells #[.string (⟨#[]⟩ : ByteArray), .bool false] 159 (0, 0)) BK286.out hb); have n2_ := Aside0.mk (below_step HB.out hb); have n3_ := Aside0.mk (hbox); have n4_ := Aside0.mk ((by rw [hg]; exact (below_size HB.out) : w.heap.size ≤ gb290)); have n5_ := Aside0.mk ((by rw [hg]; exact (below_size HB.out) : w.heap.size ≤ gb290)); have n6_ := Aside0.mk ((by rw [hg]; exact Nat.ne_of_lt (blk_lt (g := gb285) (o := .cells #[.string a0_0, .bool a0_1] 159 (0, 0)) BK285.out) : gb285 ≠ gb290)); have n7_ := Aside0.mk ((by rw [hg]; exact Nat.ne_of_gt (blk_lt (g := gb285) (o := .cells #[.string a0_0, .bool a0_1] 159 (0, 0)) BK285.out) : gb290 ≠ gb285)); have n8_ := Aside0.mk ((by rw [hg]; exact Nat.ne_of_lt (blk_lt (g := gb286) (o := .cells #[.string (⟨#[]⟩ : ByteArray), .bool false] 159 (0, 0)) BK286.out) : gb286 ≠ gb290)); have n9_ := Aside0.mk ((by rw [hg]; exact Nat.ne_of_gt (blk_lt (g := gb286) (o := .cells #[.string (⟨#[]⟩ : ByteArray), .bool false] 159 (0, 0)) BK286.out) : gb290 ≠ gb286)); clear BK285; clear BK286; clear HB; have BK285 := n0_; have BK286 := n1_; have HB := n2_; have BK290 := n3_; have GW290 := n4_; have GE290 := n5_; have NB285_290 := n6_; have NB290_285 := n7_; have NB286_290 := n8_; have NB290_286 := n9_; clear n0_ n1_ n2_ n3_ n4_ n5_ n6_ n7_ n8_ n9_; clear hb hbox hg; have hnb11 := NB290_285.out; have hnc11 := NB285_290.out; have hnb12 := NB290_286.out; have hnc12 := NB286_290.out; have hcz13_0 := (blk_cell BK290.out 0).trans rfl; have hcz13_1 := (blk_cell BK290.out 1).trans rfl; have hfz13_0 := blk_frozen BK290.out 0; have hfz13_1 := blk_frozen BK290.out 1))
 have n0_ : Aside0 (((w10.setCell ⟨gb290, 0, none⟩ (.string t288)).setCell ⟨gb290, 1, none⟩ (.bool t289)).heap[gb285]? = some (.cells #[.string a0_0, .bool a0_1] 159 (0, 0))) := ⟨by (with_reducible repeat (first | refine blk_drewN ?_ _ | refine blk_drew ?_ | refine blk_alloc ?_ _)); refine blk_far ?_ NB285_290.out _; (with_reducible repeat (first | refine blk_drewN ?_ _ | refine blk_drew ?_ | refine blk_alloc ?_ _)); refine blk_far ?_ NB285_290.out _; (with_reducible repeat (first | refine blk_drewN ?_ _ | refine blk_drew ?_ | refine blk_alloc ?_ _)); exact BK285.out⟩; have n1_ : Aside0 (((w10.setCell ⟨gb290, 0, none⟩ (.string t288)).setCell ⟨gb290, 1, none⟩ (.bool t289)).heap[gb286]? = some (.cells #[.string (⟨#[]⟩ : ByteArray), .bool false] 159 (0, 0))) := ⟨by (with_reducible repeat (first | refine blk_drewN ?_ _ | refine blk_drew ?_ | refine blk_alloc ?_ _)); refine blk_far ?_ NB286_290.out _; (with_reducible repeat (first | refine blk_drewN ?_ _ | refine blk_drew ?_ | refine blk_alloc ?_ _)); refine blk_far ?_ NB286_290.out _; (with_reducible repeat (first | refine blk_drewN ?_ _ | refine blk_drew ?_ | refine blk_alloc ?_ _)); exact BK286.out⟩; have n2_ : Aside0 (((w10.setCell ⟨gb290, 0, none⟩ (.string t288)).setCell ⟨gb290, 1, none⟩ (.bool t289)).heap[gb290]? = some (.cells #[.string t288, .bool t289] 159 (0, 0))) := ⟨by (with_reducible repeat (first | refine blk_drewN ?_ _ | refine blk_drew ?_ | refine blk_alloc ?_ _)); refine blk_put (cs := #[.string t288, .bool false]) ?_ 1 _ rfl; (with_reducible repeat (first | refine blk_drewN ?_ _ | refine blk_drew ?_ | refine blk_alloc ?_ _)); refine blk_put (cs := #[.string (⟨#[]⟩ : ByteArray), .bool false]) ?_ 0 _ rfl; (with_reducible repeat (first | refine blk_drewN ?_ _ | refine blk_drew ?_ | refine blk_alloc ?_ _)); exact BK290.out⟩; have n3_ : Aside0 (Below w.heap.size w ((w10.setCell ⟨gb290, 0, none⟩ (.string t288)).setCell ⟨gb290, 1, none⟩ (.bool t289))) := ⟨by repeat (first | (with_reducible first | exact HB.out | apply below_alloc | apply pw_below_drewN | apply below_drew1 | refine below_set ?_ GE285.out | refine below_set ?_ GE286.out | refine below_set ?_ GE290.out) | exact HB.out)⟩; (try clear BK285); (try clear BK286); (try clear BK290); (try clear HB); generalize ((w10.setCell ⟨gb290, 0, none⟩ (.string t288)).setCell ⟨gb290, 1, none⟩ (.bool t289)) = w14 at n0_ n1_ n2_ n3_ ⊢; have BK285 := n0_; have BK286 := n1_; have BK290 := n2_; have HB := n3_; clear n0_ n1_ n2_ n3_; have n0_ := Aside0.mk (blk_drew BK285.out); have n1_ := Aside0.mk (blk_drew BK286.out); have n2_ := Aside0.mk (blk_drew BK290.out); have n3_ := Aside0.mk (below_drew1 HB.out); clear BK285; clear BK286; clear BK290; clear HB; have BK285 := n0_; have BK286 := n1_; have BK290 := n2_; have HB := n3_; clear n0_ n1_ n2_ n3_; refine start_ (n := 6) (S := fun w' => w'.cell? ⟨gb290, 0, none⟩ = some (.string t288) ∧ w'.cell? ⟨gb290, 1, none⟩ = some (.bool t289)) (ds := []) #[false, false, false, false, false, false] (by kernel_rfl) rfl rfl ⟨(blk_cell BK290.out 0).trans rfl, (blk_cell BK290.out 1).trans rfl⟩ (fun hHeld => ?_); generalize w14.drew = w15 at BK285 BK286 BK290 HB hHeld ⊢; refine pure_ (i := 0) (N := some 14) (v := ?_) (a' := ?_) (bs 6 1) rfl rfl (by kernel_rfl) (fun _ _ _ h => h) (Or.inl ⟨by rfl, ?_⟩) ?_ ?_; rotate_left
 ·intro w'
  go_simp
  with_reducible rfl
 rotate_left
 ·simp only [Act.put, List.setIfInBounds_toArray, List.set_cons_zero, List.set_cons_succ, i64_w, i32_w]
  rfl
 refine take_ (i := 3) (N := some 17) (v := ?_) (a' := ?_) (bs 6 9) rfl rfl (by kernel_rfl) (fun _ _ _ h => h) (Or.inl ⟨by rfl, ?_⟩) hHeld ?_ ?_; rotate_left
 ·rintro w' ⟨s0, s1⟩
  go_simp
  with_reducible rfl
 rotate_left
 ·simp only [Act.put, List.setIfInBounds_toArray, List.set_cons_zero, List.set_cons_succ, i64_w, i32_w]
  rfl
 refine one_ (i := 1) (N := some 15) (bs 6 11) rfl rfl (by kernel_rfl) (by decide) (fun K hK => ?_); refine goes_ Try.func104 (by kernel_rfl) rfl #[.string t287] (by rfl) rfl rfl (by (try simp only [List.map_toArray, List.map_cons, List.map_nil]); first | done | rfl) ?_
 with_reducible refine (rowlockref06_Value.calls k t287 t291 _ A4.out).mono ?_
 rintro e w' ⟨rfl, ⟨nd, rfl⟩⟩
 refine ⟨_, rfl, ?_⟩
 refine hK.out _ _ ⟨(blk_cell BK290.out 0).trans rfl, (blk_cell BK290.out 1).trans rfl⟩ (fun hHeld => ?_)
 clear hK K
 refine norm_ (a' := ?_) ?_ ?_
 rotate_left
 ·show Act.put _ (some 15) _ = _
  simp only [Act.put, List.setIfInBounds_toArray, List.set_cons_zero, List.set_cons_succ, i64_w, i32_w]
  rfl
 refine pure_ (i := 2) (N := some 16) (v := ?_) (a' := ?_) (bs 6 15) rfl rfl (by kernel_rfl) (fun _ _ _ h => h) (Or.inl ⟨by rfl, ?_⟩) ?_ ?_; rotate_left
 ·intro w'
  go_simp
  with_reducible rfl
 rotate_left
 ·simp only [Act.put, List.setIfInBounds_toArray, List.set_cons_zero, List.set_cons_succ, i64_w, i32_w]
  rfl
 refine pure_ (i := 4) (N := some 4) (v := ?_) (a' := ?_) (bs 6 31) rfl rfl (by kernel_rfl) (fun _ _ _ h => h) (Or.inl ⟨by rfl, ?_⟩) ?_ ?_; rotate_left
 ·intro w'
  go_simp
  with_reducible rfl
 rotate_left
 ·simp only [Act.put, List.setIfInBounds_toArray, List.set_cons_zero, List.set_cons_succ, i64_w, i32_w]
  rfl
 refine one_ (i := 5) (N := none) (bs 6 63) rfl rfl (by kernel_rfl) (by decide) (fun K hK => ?_); have hs16 : w15.cell? ⟨gb286, 0, none⟩ = some (.string (⟨#[]⟩ : ByteArray)) := (blk_cell BK286.out 0).trans rfl; have hfs16 := blk_frozen BK286.out 0; have hns16_0 := NB285_286.out; have hns16_2 := NB290_286.out; have hms16_0 := NB286_285.out; have hms16_2 := NB286_290.out; have hs17 : w15.cell? ⟨gb286, 1, none⟩ = some (.bool false) := (blk_cell BK286.out 1).trans rfl; have hfs17 := blk_frozen BK286.out 1; have hns17_0 := NB285_286.out; have hns17_2 := NB290_286.out; have hms17_0 := NB286_285.out; have hms17_2 := NB286_290.out; refine skip_ (w1 := ?_) (by rfl) rfl ?_ ?_; rotate_left
 ·go_simp
  rfl
 refine hK.out _ _ ⟨((cell_far (p := ⟨gb286, _, none⟩) NB290_286.out _).trans (((cell_far (p := ⟨gb286, _, none⟩) NB290_286.out _).trans (hHeld.1)))), ((cell_far (p := ⟨gb286, _, none⟩) NB290_286.out _).trans (((cell_far (p := ⟨gb286, _, none⟩) NB290_286.out _).trans (hHeld.2))))⟩ (fun hHeld => ?_); clear hK K; refine done_ (by kernel_rfl) ?_
 try go_wp2
 refine bodyPost_ret (results_tc rfl _ _ gb286 159 #[.string t288, .bool t289] (0, 0) _ rfl (by (with_reducible repeat (first | refine blk_drewN ?_ _ | refine blk_drew ?_ | refine blk_alloc ?_ _)); refine blk_put (cs := #[.string t288, .bool false]) ?_ 1 _ rfl; (with_reducible repeat (first | refine blk_drewN ?_ _ | refine blk_drew ?_ | refine blk_alloc ?_ _)); refine blk_put (cs := #[.string (⟨#[]⟩ : ByteArray), .bool false]) ?_ 0 _ rfl; (with_reducible repeat (first | refine blk_drewN ?_ _ | refine blk_drew ?_ | refine blk_alloc ?_ _)); exact BK286.out) Try.underlying159 rfl (by kernel_rfl)) rfl ?_
 exact ⟨by first | rfl | (simp [errW_none, errW_some] <;> rfl) | (simp [*, errW_none, errW_some] <;> rfl), by repeat (first | (with_reducible first | exact HB.out | apply below_alloc | apply pw_below_drewN | apply below_drew1 | refine below_set ?_ GE285.out | refine below_set ?_ GE286.out | refine below_set ?_ GE290.out) | exact HB.out)⟩

/-! ### rowlockref12_R_text: function 105 -/
def rowlockref12_R_text.f (k : Nat) (a0_0 : ByteArray) (a0_1 : Bool) : Option (ByteArray × ByteArray × Bool) := (rowlockref12_R_number.f k a0_0 a0_1 1).bind fun bt294 => ((rowlockref12_R_take.f bt294.2.1 bt294.2.2 bt294.1).bind fun bt298 => (some (bt298.1, bt298.2.1, bt298.2.2)))
theorem rowlockref12_R_text.mono : ∀ a0 a1 k, LeO (rowlockref12_R_text.f k a0 a1) (rowlockref12_R_text.f (k + 1) a0 a1) := by
 intro a0 a1 k
 unfold rowlockref12_R_text.f
 repeat' first
   | (with_reducible exact rowlockref12_R_number.mono _ _ _ _)
   | (with_reducible exact LeO.refl _)
   | (with_reducible exact LeO.none _)
   | (with_reducible refine LeO.ite ?_ ?_)
   | (with_reducible refine LeO.bind ?_ (fun _ => ?_))
   | exact rowlockref12_R_number.mono _ _ _ _
   | exact LeO.none _
   | refine LeO.ite ?_ ?_
   | refine LeO.bind ?_ (fun _ => ?_)
set_option maxHeartbeats 8000000 in
set_option maxRecDepth 100000 in
theorem rowlockref12_R_text.calls (k : Nat) (a0_0 : ByteArray) (a0_1 : Bool) (r1 : ByteArray) (r2 : ByteArray) (r3 : Bool) (w : World) (h : rowlockref12_R_text.f k a0_0 a0_1 = some (r1, r2, r3)) :
  Calls Try.prog 105 #[.agg #[.string a0_0, .bool a0_1]] w fun e w' => e = .returned (.tuple #[.string r1, .agg #[.string r2, .bool r3]]) ∧ Below w.heap.size w w' := by
 have hu159 := Try.underlying159; have HB := Aside0.mk (Below.refl w.heap.size w); have H : ((rowlockref12_R_number.f k a0_0 a0_1 1).bind fun bt294 => ((rowlockref12_R_take.f bt294.2.1 bt294.2.2 bt294.1).bind fun bt298 => (some (bt298.1, bt298.2.1, bt298.2.2)))) = some (r1, r2, r3) := h; clear h; replace H := Option.bind_eq_some_iff.mp H; obtain ⟨⟨t294, t295, t296⟩, A20, H⟩ := H; replace H : ((rowlockref12_R_take.f t295 t296 t294).bind fun bt298 => (some (bt298.1, bt298.2.1, bt298.2.2))) = some (r1, r2, r3) := H; have A2 := Aside0.mk A20; clear A20; replace H := Option.bind_eq_some_iff.mp H; obtain ⟨⟨t298, t299, t300⟩, A30, H⟩ := H; replace H : (some (t298, t299, t300)) = some (r1, r2, r3) := H; have A3 := Aside0.mk A30; clear A30; simp only [Option.some.injEq, Prod.mk.injEq] at H; obtain ⟨rfl, rfl, rfl⟩ := H
 go_enter Try.func105, Try.ntmps105
 go_wp2_with (first | ((with_reducible refine gate_dst (N := 1) rfl ?_); refine box_event ?hg (N := 1) ?hd (cs := #[.string a0_0, .bool a0_1]) (t := 159) ?hr ?_; (case hd => rfl); (case hg => rfl); (case hr => first | (go_simp; done) | (go_simp; rfl)); intro gb292 hg w4 hbox hb; have n0_ := Aside0.mk (below_step (by repeat (first | (with_reducible first | exact HB.out | apply below_alloc | apply pw_below_drewN | apply below_drew1) | exact HB.out)) hb); have n1_ := Aside0.mk (hbox); have n2_ := Aside0.mk ((by rw [hg]; exact (below_size (by repeat (first | (with_reducible first | exact HB.out | apply below_alloc | apply pw_below_drewN | apply below_drew1) | exact HB.out))) : w.heap.size ≤ gb292)); have n3_ := Aside0.mk ((by rw [hg]; exact (below_size (by repeat (first | (with_reducible first | exact HB.out | apply below_alloc | apply pw_below_drewN | apply below_drew1) | exact HB.out))) : w.heap.size ≤ gb292)); clear HB; have HB := n0_; have BK292 := n1_; have GW292 := n2_; have GE292 := n3_; clear n0_ n1_ n2_ n3_; clear hb hbox hg) | ((with_reducible refine gate_dst (N := 3) rfl ?_); refine box_event ?hg (N := 3) ?hd (cs := #[.string (⟨#[]⟩ : ByteArray), .bool false]) (t := 159) ?hr ?_; (case hd => rfl); (case hg => rfl); (case hr => first | (go_simp; done) | (go_simp; rfl)); intro gb293 hg w5 hbox hb; have n0_ := Aside0.mk (blk_below (g := gb292) (o := .cells #[.string a0_0, .bool a0_1] 159 (0, 0)) (by (with_reducible repeat (first | refine blk_drewN ?_ _ | refine blk_drew ?_ | refine blk_alloc ?_ _)); exact BK292.out) hb); have n1_ := Aside0.mk (below_step (by repeat (first | (with_reducible first | exact HB.out | apply below_alloc | apply pw_below_drewN | apply below_drew1 | refine below_set ?_ GE292.out) | exact HB.out)) hb); have n2_ := Aside0.mk (hbox); have n3_ := Aside0.mk ((by rw [hg]; exact (below_size (by repeat (first | (with_reducible first | exact HB.out | apply below_alloc | apply pw_below_drewN | apply below_drew1 | refine below_set ?_ GE292.out) | exact HB.out))) : w.heap.size ≤ gb293)); have n4_ := Aside0.mk ((by rw [hg]; exact (below_size (by repeat (first | (with_reducible first | exact HB.out | apply below_alloc | apply pw_below_drewN | apply below_drew1 | refine below_set ?_ GE292.out) | exact HB.out))) : w.heap.size ≤ gb293)); have n5_ := Aside0.mk ((by rw [hg]; exact Nat.ne_of_lt (blk_lt (g := gb292) (o := .cells #[.string a0_0, .bool a0_1] 159 (0, 0)) (by (with_reducible repeat (first | refine blk_drewN ?_ _ | refine blk_drew ?_ | refine blk_alloc ?_ _)); exact BK292.out)) : gb292 ≠ gb293)); have n6_ := Aside0.mk ((by rw [hg]; exact Nat.ne_of_gt (blk_lt (g := gb292) (o := .cells #[.string a0_0, .bool a0_1] 159 (0, 0)) (by (with_reducible repeat (first | refine blk_drewN ?_ _ | refine blk_drew ?_ | refine blk_alloc ?_ _)); exact BK292.out)) : gb293 ≠ gb292)); clear BK292; clear HB; have BK292 := n0_; have HB := n1_; have BK293 := n2_; have GW293 := n3_; have GE293 := n4_; have NB292_293 := n5_; have NB293_292 := n6_; clear n0_ n1_ n2_ n3_ n4_ n5_ n6_; clear hb hbox hg; have hnb6 := NB292_293.out; have hnc6 := NB293_292.out; have hcz7_0 : w5.cell? ⟨gb292, 0, none⟩ = some (.string a0_0) := (blk_cell BK292.out 0).trans rfl; have hcz7_1 : w5.cell? ⟨gb292, 1, none⟩ = some (.bool a0_1) := (blk_cell BK292.out 1).trans rfl; have hfz7_0 := blk_frozen BK292.out 0; have hfz7_1 := blk_frozen BK292.out 1) | ((with_reducible refine gate_callee (f := 77) rfl ?_); refine goesL_ (some 8) rfl rfl Try.func77 (by kernel_rfl) rfl #[.agg #[.string a0_0, .bool a0_1], .int .i64 1] rfl (by (try simp only [List.map_toArray, List.map_cons, List.map_nil]); first | done | rfl | (simp only [List.length_drop, List.length_take]; rfl)) ?_; (with_reducible refine (rowlockref12_R_number.calls k a0_0 a0_1 1 t294 t295 t296 _ A2.out).mono ?_); rintro e w8 ⟨rfl, hb⟩; refine ⟨_, rfl, ?_⟩; have n0_ := Aside0.mk (blk_below (g := gb292) (o := .cells #[.string a0_0, .bool a0_1] 159 (0, 0)) (by (with_reducible repeat (first | refine blk_drewN ?_ _ | refine blk_drew ?_ | refine blk_alloc ?_ _)); exact BK292.out) hb); have n1_ := Aside0.mk (blk_below (g := gb293) (o := .cells #[.string (⟨#[]⟩ : ByteArray), .bool false] 159 (0, 0)) (by (with_reducible repeat (first | refine blk_drewN ?_ _ | refine blk_drew ?_ | refine blk_alloc ?_ _)); exact BK293.out) hb); have n2_ := Aside0.mk (below_step (by repeat (first | (with_reducible first | exact HB.out | apply below_alloc | apply pw_below_drewN | apply below_drew1 | refine below_set ?_ GE292.out | refine below_set ?_ GE293.out) | exact HB.out)) hb); clear BK292; clear BK293; clear HB; have BK292 := n0_; have BK293 := n1_; have HB := n2_; clear n0_ n1_ n2_; (try clear hb); (try clear hb2); (try clear hk); (try clear hi)) | ((with_reducible refine gate_dst (N := 5) rfl ?_); refine box_event ?hg (N := 5) ?hd (cs := #[.string (⟨#[]⟩ : ByteArray), .bool false]) (t := 159) ?hr ?_; (case hd => rfl); (case hg => rfl); (case hr => first | (go_simp; done) | (go_simp; rfl)); intro gb297 hg w9 hbox hb; have n0_ := Aside0.mk (blk_below (g := gb292) (o := .cells #[.string a0_0, .bool a0_1] 159 (0, 0)) (by (with_reducible repeat (first | refine blk_drewN ?_ _ | refine blk_drew ?_ | refine blk_alloc ?_ _)); exact BK292.out) hb); have n1_ := Aside0.mk (blk_below (g := gb293) (o := .cells #[.string (⟨#[]⟩ : ByteArray), .bool false] 159 (0, 0)) (by (with_reducible repeat (first | refine blk_drewN ?_ _ | refine blk_drew ?_ | refine blk_alloc ?_ _)); exact BK293.out) hb); have n2_ := Aside0.mk (below_step (by repeat (first | (with_reducible first | exact HB.out | apply below_alloc | apply pw_below_drewN | apply below_drew1 | refine below_set ?_ GE292.out | refine below_set ?_ GE293.out) | exact HB.out)) hb); have n3_ := Aside0.mk (hbox); have n4_ := Aside0.mk ((by rw [hg]; exact (below_size (by repeat (first | (with_reducible first | exact HB.out | apply below_alloc | apply pw_below_drewN | apply below_drew1 | refine below_set ?_ GE292.out | refine below_set ?_ GE293.out) | exact HB.out))) : w.heap.size ≤ gb297)); have n5_ := Aside0.mk ((by rw [hg]; exact (below_size (by repeat (first | (with_reducible first | exact HB.out | apply below_alloc | apply pw_below_drewN | apply below_drew1 | refine below_set ?_ GE292.out | refine below_set ?_ GE293.out) | exact HB.out))) : w.heap.size ≤ gb297)); have n6_ := Aside0.mk ((by rw [hg]; exact Nat.ne_of_lt (blk_lt (g := gb292) (o := .cells #[.string a0_0, .bool a0_1] 159 (0, 0)) (by (with_reducible repeat (first | refine blk_drewN ?_ _ | refine blk_drew ?_ | refine blk_alloc ?_ _)); exact BK292.out)) : gb292 ≠ gb297)); have n7_ := Aside0.mk ((by rw [hg]; exact Nat.ne_of_gt (blk_lt (g := gb292) (o := .cells #[.string a0_0, .bool a0_1] 159 (0, 0)) (by (with_reducible repeat (first | refine blk_drewN ?_ _ | refine blk_drew ?_ | refine blk_alloc ?_ _)); exact BK292.out)) : gb297 ≠ gb292)); have n8_ := Aside0.mk ((by rw [hg]; exact Nat.ne_of_lt (blk_lt (g := gb293) (o := .cells #[.string (⟨#[]⟩ : ByteArray), .bool false] 159 (0, 0)) (by (with_reducible repeat (first | refine blk_drewN ?_ _ | refine blk_drew ?_ | refine blk_alloc ?_ _)); exact BK293.out)) : gb293 ≠ gb297)); have n9_ := Aside0.mk ((by rw [hg]; exact Nat.ne_of_gt (blk_lt (g := gb293) (o := .cells #[.string (⟨#[]⟩ : ByteArray), .bool false] 159 (0, 0)) (by (with_reducible repeat (first | refine blk_drewN ?_ _ | refine blk_drew ?_ | refine blk_alloc ?_ _)); exact BK293.out)) : gb297 ≠ gb293)); clear BK292; clear BK293; clear HB; have BK292 := n0_; have BK293 := n1_; have HB := n2_; have BK297 := n3_; have GW297 := n4_; have GE297 := n5_; have NB292_297 := n6_; have NB297_292 := n7_; have NB293_297 := n8_; have NB297_293 := n9_; clear n0_ n1_ n2_ n3_ n4_ n5_ n6_ n7_ n8_ n9_; clear hb hbox hg; have hnb10 := NB297_292.out; have hnc10 := NB292_297.out; have hnb11 := NB297_293.out; have hnc11 := NB293_297.out; have hcz12_0 : w9.cell? ⟨gb297, 0, none⟩ = some (.string (⟨#[]⟩ : ByteArray)) := (blk_cell BK297.out 0).trans rfl; have hcz12_1 : w9.cell? ⟨gb297, 1, none⟩ = some (.bool false) := (blk_cell BK297.out 1).trans rfl; have hfz12_0 := blk_frozen BK297.out 0; have hfz12_1 := blk_frozen BK297.out 1) | ((with_reducible refine gate_callee (f := 103) rfl ?_); refine goesL_ (some 13) rfl rfl Try.func103 (by kernel_rfl) rfl #[.agg #[.string t295, .bool t296], .int .i64 t294] rfl (by (try simp only [List.map_toArray, List.map_cons, List.map_nil]); first | done | rfl | (simp only [List.length_drop, List.length_take]; rfl)) ?_; (with_reducible refine (rowlockref12_R_take.calls t295 t296 t294 t298 t299 t300 _ A3.out).mono ?_); rintro e w13 ⟨rfl, hb⟩; refine ⟨_, rfl, ?_⟩; have n0_ := Aside0.mk (blk_below (g := gb292) (o := .cells #[.string a0_0, .bool a0_1] 159 (0, 0)) (by (with_reducible repeat (first | refine blk_drewN ?_ _ | refine blk_drew ?_ | refine blk_alloc ?_ _)); refine blk_far ?_ NB292_297.out _; (with_reducible repeat (first | refine blk_drewN ?_ _ | refine blk_drew ?_ | refine blk_alloc ?_ _)); refine blk_far ?_ NB292_297.out _; (with_reducible repeat (first | refine blk_drewN ?_ _ | refine blk_drew ?_ | refine blk_alloc ?_ _)); exact BK292.out) hb); have n1_ := Aside0.mk (blk_below (g := gb293) (o := .cells #[.string (⟨#[]⟩ : ByteArray), .bool false] 159 (0, 0)) (by (with_reducible repeat (first | refine blk_drewN ?_ _ | refine blk_drew ?_ | refine blk_alloc ?_ _)); refine blk_far ?_ NB293_297.out _; (with_reducible repeat (first | refine blk_drewN ?_ _ | refine blk_drew ?_ | refine blk_alloc ?_ _)); refine blk_far ?_ NB293_297.out _; (with_reducible repeat (first | refine blk_drewN ?_ _ | refine blk_drew ?_ | refine blk_alloc ?_ _)); exact BK293.out) hb); have n2_ := Aside0.mk (blk_below (g := gb297) (o := .cells #[.string t295, .bool t296] 159 (0, 0)) (by (with_reducible repeat (first | refine blk_drewN ?_ _ | refine blk_drew ?_ | refine blk_alloc ?_ _)); refine blk_put (cs := #[.string t295, .bool false]) ?_ 1 _ rfl; (with_reducible repeat (first | refine blk_drewN ?_ _ | refine blk_drew ?_ | refine blk_alloc ?_ _)); refine blk_put (cs := #[.string (⟨#[]⟩ : ByteArray), .bool false]) ?_ 0 _ rfl; (with_reducible repeat (first | refine blk_drewN ?_ _ | refine blk_drew ?_ | refine blk_alloc ?_ _)); exact BK297.out) hb); have n3_ := Aside0.mk (below_step (by repeat (first | (with_reducible first | exact HB.out | apply below_alloc | apply pw_below_drewN | apply below_drew1 | refine below_set ?_ GE292.out | refine below_set ?_ GE293.out | refine below_set ?_ GE297.out) | exact HB.out)) hb); clear BK292; clear BK293; clear BK297; clear HB; have BK292 := n0_; have BK293 := n1_; have BK297 := n2_; have HB := n3_; clear n0_ n1_ n2_ n3_; (try clear hb); (try clear hb2); (try clear hk); (try clear hi); have hcz14_0 : w13.cell? ⟨gb293, 0, none⟩ = some (.string (⟨#[]⟩ : ByteArray)) := (blk_cell BK293.out 0).trans rfl; have hcz14_1 : w13.cell? ⟨gb293, 1, none⟩ = some (.bool false) := (blk_cell BK293.out 1).trans rfl; have hfz14_0 := blk_frozen BK293.out 0; have hfz14_1 := blk_frozen BK293.out 1))
 refine bodyPost_ret (results_tc rfl _ _ gb293 159 #[.string t299, .bool t300] (0, 0) _ rfl (by (with_reducible repeat (first | refine blk_drewN ?_ _ | refine blk_drew ?_ | refine blk_alloc ?_ _)); refine blk_put (cs := #[.string t299, .bool false]) ?_ 1 _ rfl; (with_reducible repeat (first | refine blk_drewN ?_ _ | refine blk_drew ?_ | refine blk_alloc ?_ _)); refine blk_put (cs := #[.string (⟨#[]⟩ : ByteArray), .bool false]) ?_ 0 _ rfl; (with_reducible repeat (first | refine blk_drewN ?_ _ | refine blk_drew ?_ | refine blk_alloc ?_ _)); exact BK293.out) Try.underlying159 rfl (by kernel_rfl)) rfl ?_
 exact ⟨by first | rfl | (simp [errW_none, errW_some] <;> rfl) | (simp [*, errW_none, errW_some] <;> rfl), by repeat (first | (with_reducible first | exact HB.out | apply below_alloc | apply pw_below_drewN | apply below_drew1 | refine below_set ?_ GE292.out | refine below_set ?_ GE293.out | refine below_set ?_ GE297.out) | exact HB.out)⟩

end Go.Proofs.Ytpfegfkniilobaa.XSchema
