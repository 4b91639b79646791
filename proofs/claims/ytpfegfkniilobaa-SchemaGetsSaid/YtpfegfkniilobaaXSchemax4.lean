-- Written by this session's own program (wip/own_print.py) over the kit's print, with this session's hand-proved contracts in their places; Lean checks it.
import Derived.Test.YtpfegfkniilobaaXSchemax0
import Derived.Test.YtpfegfkniilobaaBs
import Derived.Test.YtpfegfkniilobaaXSchemax3
namespace Go.Proofs.Ytpfegfkniilobaa.XSchema
open Go.RowKit Go.Proofs.YtpfegfkniilobaaW.PrintWords Go.Proofs.YtpfegfkniilobaaW.PrintLast Go.Proofs.YtpfegfkniilobaaW.PrintMore
attribute [local go_sem] max2_int min2_int max_two min_two max_three min_three max_four min_four   -- for this text's walks alone
set_option linter.unusedVariables false
set_option linter.unusedSimpArgs false

/-! ### schema_table: function 71 -/
mutual
def schema_table.j0 : Nat → Bool → ByteArray → List (S87) → Int → Int → Int → Option (Bool)
 | 0, _, _, _, _, _, _ => none
 | k + 1, x27, x120000, x120001, x120002, x120003, x120004 => if x27 = true then (some false) else (schema_table.l0 k ([] : List ByteArray) x120001 (x120001.length : Int) 0)
def schema_table.l0 : Nat → List ByteArray → List (S87) → Int → Int → Option (Bool)
 | 0, _, _, _, _ => none
 | k + 1, x3, x29, x30, x31 => if x31 < x30 then (if 0 ≤ x31 then (if x31 < (x29.length : Int) then (if ((rd_T87 x29 x31).f1) < 1 then (some false) else (if ((rd_T87 x29 x31).f1) > 3 then (some false) else ((schema_right.f k (([(rd_T87 x29 x31).f2, (rd_T87 x29 x31).f3] : List Int))).bind fun t129 => (if t129 = true then (if x3.length < 8796093022208 then (schema_table.l0 k (x3 ++ [(rd_T87 x29 x31).f0]) x29 x30 (wrap64 (x31 + 1))) else (none)) else (some false))))) else (none)) else (none)) else ((schema_names.f k x3).bind fun t133 => (some t133))
end
def schema_table.f (k : Nat) (a0_0 : ByteArray) (l0_1 : List (S87)) (a0_2 : Int) (a0_3 : Int) (a0_4 : Int) : Option (Bool) := if (l0_1.length : Int) = 0 then (schema_table.j0 k true a0_0 l0_1 a0_2 a0_3 a0_4) else (if (l0_1.length : Int) > 8 then (schema_table.j0 k true a0_0 l0_1 a0_2 a0_3 a0_4) else ((schema_right.f k (([a0_3, a0_4, wrap64 (a0_2)] : List Int))).bind fun t123 => (schema_table.j0 k (!t123) a0_0 l0_1 a0_2 a0_3 a0_4)))
theorem schema_table.mono_l : ∀ k, (∀ y0 y1 y2 y3 y4 y5, LeO (schema_table.j0 k y0 y1 y2 y3 y4 y5) (schema_table.j0 (k + 1) y0 y1 y2 y3 y4 y5)) ∧ (∀ y0 y1 y2 y3, LeO (schema_table.l0 k y0 y1 y2 y3) (schema_table.l0 (k + 1) y0 y1 y2 y3))
 | 0 => ⟨fun _ _ _ _ _ _ r h => by simp [schema_table.j0] at h, fun _ _ _ _ r h => by simp [schema_table.l0] at h⟩
 | k + 1 => by
  obtain ⟨ih0, ih1⟩ := schema_table.mono_l k; refine ⟨?_, ?_⟩
  ·intro y0 y1 y2 y3 y4 y5
   unfold schema_table.j0
   repeat' first
   | (with_reducible exact ih0 _ _ _ _ _ _)
   | (with_reducible exact ih1 _ _ _ _)
   | (with_reducible exact schema_names.mono _ _)
   | (with_reducible exact schema_right.mono _ _)
   | (with_reducible exact LeO.refl _)
   | (with_reducible exact LeO.none _)
   | (with_reducible refine LeO.ite ?_ ?_)
   | (with_reducible refine LeO.bind ?_ (fun _ => ?_))
   | exact ih0 _ _ _ _ _ _
   | exact ih1 _ _ _ _
   | exact schema_names.mono _ _
   | exact schema_right.mono _ _
   | exact LeO.none _
   | refine LeO.ite ?_ ?_
   | refine LeO.bind ?_ (fun _ => ?_)
  ·intro y0 y1 y2 y3
   unfold schema_table.l0
   repeat' first
   | (with_reducible exact ih0 _ _ _ _ _ _)
   | (with_reducible exact ih1 _ _ _ _)
   | (with_reducible exact schema_names.mono _ _)
   | (with_reducible exact schema_right.mono _ _)
   | (with_reducible exact LeO.refl _)
   | (with_reducible exact LeO.none _)
   | (with_reducible refine LeO.ite ?_ ?_)
   | (with_reducible refine LeO.bind ?_ (fun _ => ?_))
   | exact ih0 _ _ _ _ _ _
   | exact ih1 _ _ _ _
   | exact schema_names.mono _ _
   | exact schema_right.mono _ _
   | exact LeO.none _
   | refine LeO.ite ?_ ?_
   | refine LeO.bind ?_ (fun _ => ?_)
theorem schema_table.mono : ∀ a0 a1 a2 a3 a4 k, LeO (schema_table.f k a0 a1 a2 a3 a4) (schema_table.f (k + 1) a0 a1 a2 a3 a4) := by
 intro a0 a1 a2 a3 a4 k; obtain ⟨ih0, ih1⟩ := schema_table.mono_l k
 unfold schema_table.f
 repeat' first
   | (with_reducible exact ih0 _ _ _ _ _ _)
   | (with_reducible exact ih1 _ _ _ _)
   | (with_reducible exact schema_names.mono _ _)
   | (with_reducible exact schema_right.mono _ _)
   | (with_reducible exact LeO.refl _)
   | (with_reducible exact LeO.none _)
   | (with_reducible refine LeO.ite ?_ ?_)
   | (with_reducible refine LeO.bind ?_ (fun _ => ?_))
   | exact ih0 _ _ _ _ _ _
   | exact ih1 _ _ _ _
   | exact schema_names.mono _ _
   | exact schema_right.mono _ _
   | exact LeO.none _
   | refine LeO.ite ?_ ?_
   | refine LeO.bind ?_ (fun _ => ?_)
set_option maxHeartbeats 8000000 in
set_option maxRecDepth 100000 in
theorem schema_table.calls (k : Nat) (a0_0 : ByteArray) (A0_1 : Option Addr) (c0_1 : Nat) (l0_1 : List (S87)) (a0_2 : Int) (a0_3 : Int) (a0_4 : Int) (r : Bool) (w : World) (hr0_1 : Kd.C k87 w A0_1 l0_1.length l0_1) (hc0_1 : l0_1.length ≤ c0_1) (h : schema_table.f k a0_0 l0_1 a0_2 a0_3 a0_4 = some r) :
  Calls Try.prog 71 #[.agg #[.string a0_0, .slice A0_1 l0_1.length c0_1, .int .u32 a0_2, .int .i64 a0_3, .int .i64 a0_4]] w fun e w' => e = .returned (.bool r) ∧ Below w.heap.size w w' := by
 have hu84 := Try.underlying84; have hu87 := Try.underlying87; have HR0_1 := Aside0.mk hr0_1; have HC0_1 := Aside0.mk hc0_1; clear hr0_1 hc0_1; have HB := Aside0.mk (Below.refl w.heap.size w); have H : (if (l0_1.length : Int) = 0 then (schema_table.j0 k true a0_0 l0_1 a0_2 a0_3 a0_4) else (if (l0_1.length : Int) > 8 then (schema_table.j0 k true a0_0 l0_1 a0_2 a0_3 a0_4) else ((schema_right.f k (([a0_3, a0_4, wrap64 (a0_2)] : List Int))).bind fun t123 => (schema_table.j0 k (!t123) a0_0 l0_1 a0_2 a0_3 a0_4)))) = some r := h; clear h; have HC2 := Aside0.mk H; clear H
 go_enter Try.func71, Try.ntmps71
 go_upto_region 1 with (first | ((with_reducible refine gate_dst (N := 1) rfl ?_); (try (refine gate_guard (by rfl) ?_; dsimp only)); refine box_event ?hg (N := 1) ?hd (cs := #[.string a0_0, .slice A0_1 l0_1.length c0_1, .int .u32 a0_2, .int .i64 a0_3, .int .i64 a0_4]) (t := 84) ?hr ?_; (case hd => rfl); (case hg => rfl); (case hr => first | (go_simp; done) | (go_simp; rfl)); intro gb119 hg w3 hbox hb; have n0_ := Aside0.mk (below_step HB.out hb); have n1_ := Aside0.mk (hbox); have n2_ := Aside0.mk ((by rw [hg]; exact (below_size HB.out) : w.heap.size ≤ gb119)); have n3_ := Aside0.mk ((by rw [hg]; exact (below_size HB.out) : w.heap.size ≤ gb119)); clear HB; have HB := n0_; have BK119 := n1_; have GW119 := n2_; have GE119 := n3_; clear n0_ n1_ n2_ n3_; clear hb hbox hg))
 (try simp only [Act.put, List.setIfInBounds_toArray, List.set_cons_zero, List.set_cons_succ])
 go_cut [27] (fun v27 wc => ∃ (kq : Nat) (x27_1 : Bool), v27 = .bool x27_1 ∧ Aside0 (schema_table.j0 kq x27_1 a0_0 l0_1 a0_2 a0_3 a0_4 = some r) ∧ Aside0 (kq ≤ k) ∧ Aside0 (wc.heap[gb119]? = some (.cells #[.string a0_0, (.slice A0_1 l0_1.length c0_1), .int .u32 a0_2, .int .i64 a0_3, .int .i64 a0_4] 84 (0, 0))) ∧ Aside0 (Below w.heap.size w wc))
 case first =>
  have H := HC2.out; clear HC2
  by_cases c4 : (l0_1.length : Int) = 0
  ·rw [if_pos c4] at H
   have c4b0 : ((l0_1.length : Int) == 0) = true := beq_iff_eq.mpr c4; have c4b1 : ((l0_1.length : Int) != 0) = false := bne_eq_false_iff_eq.mpr c4; clear c4
   (first | rw [c4b0] | (simp only [i64_w, i32_w]; rw [c4b0]) | skip)
   have H' := Aside0.mk H; clear H; have hcz5_0 := (blk_cell BK119.out 0).trans rfl; have hcz5_1 := (blk_cell BK119.out 1).trans rfl; have hcz5_2 := (blk_cell BK119.out 2).trans rfl; have hcz5_3 := (blk_cell BK119.out 3).trans rfl; have hcz5_4 := (blk_cell BK119.out 4).trans rfl; have hfz5_0 := blk_frozen BK119.out 0; have hfz5_1 := blk_frozen BK119.out 1; have hfz5_2 := blk_frozen BK119.out 2; have hfz5_3 := blk_frozen BK119.out 3; have hfz5_4 := blk_frozen BK119.out 4
   go_wp2
   go_meet
   case rel => exact ⟨_, (true), (by first | rfl | (simp; done) | (simp [*]; done)), H', ⟨by first | omega | exact Nat.le_refl _⟩, ⟨by (with_reducible repeat (first | refine blk_drewN ?_ _ | refine blk_drew ?_ | refine blk_alloc ?_ _)); exact BK119.out⟩, ⟨by repeat (first | (with_reducible first | exact HB.out | apply below_alloc | apply pw_below_drewN | apply below_drew1 | refine below_set ?_ GE119.out) | exact HB.out)⟩⟩
  ·rw [if_neg c4] at H
   have c4b0 : ((l0_1.length : Int) == 0) = false := beq_eq_false_iff_ne.mpr c4; have c4b1 : ((l0_1.length : Int) != 0) = true := bne_iff_ne.mpr c4; have c4b2 : ¬ (l0_1 = []) := fun h_ => c4 (by rw [h_]; rfl)
   (first | rw [c4b0] | (simp only [i64_w, i32_w]; rw [c4b0]) | skip)
   by_cases c6 : (l0_1.length : Int) > 8
   ·rw [if_pos c6] at H
    have c6b0 : decide (8 < (l0_1.length : Int)) = true := decide_eq_true c6; have c6b1 : decide (8 < l0_1.length) = true := decide_eq_true (by omega); clear c6; have H' := Aside0.mk H; clear H; have hcz7_0 := (blk_cell BK119.out 0).trans rfl; have hcz7_1 := (blk_cell BK119.out 1).trans rfl; have hcz7_2 := (blk_cell BK119.out 2).trans rfl; have hcz7_3 := (blk_cell BK119.out 3).trans rfl; have hcz7_4 := (blk_cell BK119.out 4).trans rfl; have hfz7_0 := blk_frozen BK119.out 0; have hfz7_1 := blk_frozen BK119.out 1; have hfz7_2 := blk_frozen BK119.out 2; have hfz7_3 := blk_frozen BK119.out 3; have hfz7_4 := blk_frozen BK119.out 4
    go_wp2
    go_meet
    case rel => exact ⟨_, (true), (by first | rfl | (simp; done) | (simp [*]; done)), H', ⟨by first | omega | exact Nat.le_refl _⟩, ⟨by (with_reducible repeat (first | refine blk_drewN ?_ _ | refine blk_drew ?_ | refine blk_alloc ?_ _)); exact BK119.out⟩, ⟨by repeat (first | (with_reducible first | exact HB.out | apply below_alloc | apply pw_below_drewN | apply below_drew1 | refine below_set ?_ GE119.out) | exact HB.out)⟩⟩
   ·rw [if_neg c6] at H
    have c6b0 : decide (8 < (l0_1.length : Int)) = false := decide_eq_false c6; have c6b1 : decide (8 < l0_1.length) = false := decide_eq_false (by omega); clear c6; obtain ⟨y120, hy120⟩ : ∃ y_ : List Int, y_ = (([a0_3, a0_4, wrap64 (a0_2)] : List Int)) := ⟨_, rfl⟩; replace H : ((schema_right.f k y120).bind fun t123 => (schema_table.j0 k (!t123) a0_0 l0_1 a0_2 a0_3 a0_4)) = some r := by first | (rw [hy120]; with_reducible exact H) | (have H2_ := (Option.bind_some _ _).symm.trans H; rw [hy120]; with_reducible exact H2_) | (have H2_ := (Option.bind_some _ _).symm.trans H; with_reducible exact H2_) | with_reducible exact H | (rw [hy120]; exact H) | exact H
    have Ny120 := Aside0.mk hy120; clear hy120; replace H := Option.bind_eq_some_iff.mp H; obtain ⟨t123, A80, H⟩ := H; replace H : (schema_table.j0 k (!t123) a0_0 l0_1 a0_2 a0_3 a0_4) = some r := H; have A8 := Aside0.mk A80; clear A80; have H' := Aside0.mk H; clear H; have hcz9_0 := (blk_cell BK119.out 0).trans rfl; have hcz9_1 := (blk_cell BK119.out 1).trans rfl; have hcz9_2 := (blk_cell BK119.out 2).trans rfl; have hcz9_3 := (blk_cell BK119.out 3).trans rfl; have hcz9_4 := (blk_cell BK119.out 4).trans rfl; have hfz9_0 := blk_frozen BK119.out 0; have hfz9_1 := blk_frozen BK119.out 1; have hfz9_2 := blk_frozen BK119.out 2; have hfz9_3 := blk_frozen BK119.out 3; have hfz9_4 := blk_frozen BK119.out 4
    go_wp2_with (first | ((with_reducible refine gate_dst (N := 24) rfl ?_); (try (refine gate_guard (by rfl) ?_; dsimp only)); refine Kd.R_lit (Kd.int .i64) _ 3 ?hg (N := 24) ?hd (xs := ([a0_3, a0_4, wrap64 (a0_2)] : List Int)) (inner := [.int .i64 a0_3, .int .i64 a0_4, .int .i64 (wrap64 (a0_2))]) (ok := fun _ => True) (okp := fun _ => True) ?hr ?hp (fun _ hk => hk) trivial (Below.refl _ _) (Nat.le_refl _) (by simp) ?_; (case hd => rfl); (case hg => rfl); (case hr => first | (go_simp; done) | (go_simp; rfl)); (case hp => exact (Reps.one (show Kd.M (Kd.int .i64) _ _ _ a0_3 [.int .i64 a0_3] from rfl) (Reps.one (show Kd.M (Kd.int .i64) _ _ _ a0_4 [.int .i64 a0_4] from rfl) (Reps.one (show Kd.M (Kd.int .i64) _ _ _ (wrap64 (a0_2)) [.int .i64 (wrap64 (a0_2))] from rfl) (Reps.none _ _))))); intro v121 w10 ho11 hb hg_ hnew_; clear hg_ hnew_; (first | rw [← Ny120.out] at ho11 | (simp only [Int.reduceToNat] at ho11; rw [← Ny120.out] at ho11)); have n0_ := Aside0.mk (Kd.R_lower ho11 (below_size HB.out)); have n1_ := Aside0.mk (blk_below (g := gb119) (o := .cells #[.string a0_0, .slice A0_1 l0_1.length c0_1, .int .u32 a0_2, .int .i64 a0_3, .int .i64 a0_4] 84 (0, 0)) BK119.out hb); have n2_ := Aside0.mk (below_step HB.out hb); clear BK119; clear HB; have HO122 := n0_; have BK119 := n1_; have HB := n2_; clear n0_ n1_ n2_; clear hb ho11; obtain ⟨Ao12, co12, eo12⟩ := Kd.R_slice HO122.out; subst eo12) | (go_at_call 97; (with_reducible refine (schema_right.calls k _ _ y120 t123 _ ?side1 ?side2 A8.out).mono ?_); (case side1 => repeat (first | exact (Kd.R_reads' HO122.out).2.2 | (with_reducible refine Kd.C_alloc ?_ _) | (with_reducible refine Kd.C_drewN ?_ _) | (with_reducible refine Kd.C_drew ?_))); (case side2 => exact (Kd.R_reads' HO122.out).2.1); rintro e w' ⟨rfl, ⟨nd, rfl⟩⟩))
    go_meet
    case rel => exact ⟨_, (!t123), (by first | rfl | (simp; done) | (simp [*]; done)), H', ⟨by first | omega | exact Nat.le_refl _⟩, ⟨by (with_reducible repeat (first | refine blk_drewN ?_ _ | refine blk_drew ?_ | refine blk_alloc ?_ _)); exact BK119.out⟩, ⟨by repeat (first | (with_reducible first | exact HB.out | apply below_alloc | apply pw_below_drewN | apply below_drew1 | refine below_set ?_ GE119.out) | exact HB.out)⟩⟩
 case rest =>
  clear HC2; (try clear p2); (try clear c4); (try clear c4b0); (try clear c4b1); (try clear c4b2); (try clear c6); (try clear c6b0); (try clear c6b1); (try clear p6); (try clear c7); (try clear hcz5_0); (try clear hcz5_1); (try clear hcz5_2); (try clear hcz5_3); (try clear hcz5_4); (try clear hcz7_0); (try clear hcz7_1); (try clear hcz7_2); (try clear hcz7_3); (try clear hcz7_4); (try clear hcz9_0); (try clear hcz9_1); (try clear hcz9_2); (try clear hcz9_3); (try clear hcz9_4); (try clear hfz5_0); (try clear hfz5_1); (try clear hfz5_2); (try clear hfz5_3); (try clear hfz5_4); (try clear hfz7_0); (try clear hfz7_1); (try clear hfz7_2); (try clear hfz7_3); (try clear hfz7_4); (try clear hfz9_0); (try clear hfz9_1); (try clear hfz9_2); (try clear hfz9_3); (try clear hfz9_4); obtain ⟨kq, x27_1, rfl, HA, HJ1, BK119, HB⟩ := hcut
  cases kq with
  | zero => exact absurd HA.out (by simp [schema_table.j0])
  | succ kj1 =>
   have H := HA.out; clear HA; simp only [schema_table.j0] at H
   by_cases c13 : x27_1 = true
   ·subst c13
    have H1 : (some false) = some r := by rw [if_pos rfl] at H; exact H
    clear H; have H := H1; clear H1; obtain rfl := Option.some.inj H
    go_wp2
    go_ret
    exact ⟨by first | rfl | (simp [errW_none, errW_some] <;> rfl) | (simp [*, errW_none, errW_some] <;> rfl), by repeat (first | (with_reducible first | exact HB.out | apply below_alloc | apply pw_below_drewN | apply below_drew1 | refine below_set ?_ GE119.out) | exact HB.out)⟩
   ·replace c13 := Bool.eq_false_iff.mpr c13
    subst c13; have H1 : (schema_table.l0 kj1 ([] : List ByteArray) l0_1 (l0_1.length : Int) 0) = some r := by rw [if_neg (show ¬ (false = true) by decide)] at H; exact H
    clear H; have H := H1; clear H1; have H' := Aside0.mk H; clear H; have hcz14_0 := (blk_cell BK119.out 0).trans rfl; have hcz14_1 := (blk_cell BK119.out 1).trans rfl; have hcz14_2 := (blk_cell BK119.out 2).trans rfl; have hcz14_3 := (blk_cell BK119.out 3).trans rfl; have hcz14_4 := (blk_cell BK119.out 4).trans rfl; have hfz14_0 := blk_frozen BK119.out 0; have hfz14_1 := blk_frozen BK119.out 1; have hfz14_2 := blk_frozen BK119.out 2; have hfz14_3 := blk_frozen BK119.out 3; have hfz14_4 := blk_frozen BK119.out 4
    go_wp2
    go_loopg [3, 31] kj1 (fun kq v3 v31 w' => ∃ (x3_2 : List ByteArray) (x31_2 : Int), v31 = .int .i64 x31_2 ∧ Aside0 (schema_table.l0 kq x3_2 l0_1 (l0_1.length : Int) x31_2 = some r) ∧ Aside0 (kq ≤ kj1) ∧ Aside0 (Kd.R Kd.string 9 w' w.heap.size (fun _ => True) v3 x3_2) ∧ Aside0 (w'.heap[gb119]? = some (.cells #[.string a0_0, (.slice A0_1 l0_1.length c0_1), .int .u32 a0_2, .int .i64 a0_3, .int .i64 a0_4] 84 (0, 0))) ∧ Aside0 (Below w.heap.size w w'))
    case atStart => exact ⟨(([] : List ByteArray)), (0), (by first | rfl | (simp; done) | (simp [*]; done)), H', ⟨Nat.le_refl _⟩, ⟨by first | exact Kd.R_nil _ _ _ _ _ | exact Kd.N_nil _ _ _ _ _ | exact Kd.V_nil _ _ _ _ _ | exact Kd.Q_nil _ _ _ _ _ | exact Kd.S_nil _ _ _ _ _⟩, ⟨by (with_reducible repeat (first | refine blk_drewN ?_ _ | refine blk_drew ?_ | refine blk_alloc ?_ _)); exact BK119.out⟩, ⟨by repeat (first | (with_reducible first | exact HB.out | apply below_alloc | apply pw_below_drewN | apply below_drew1 | refine below_set ?_ GE119.out) | exact HB.out)⟩⟩
    case round =>
     clear H'; (try clear c1); (try clear p2); (try clear c4); (try clear c4b0); (try clear c4b1); (try clear c4b2); (try clear c6); (try clear c6b0); (try clear c6b1); (try clear p6); (try clear c7); (try clear c13); (try clear hcz14_0); (try clear hcz14_1); (try clear hcz14_2); (try clear hcz14_3); (try clear hcz14_4); (try clear hcz5_0); (try clear hcz5_1); (try clear hcz5_2); (try clear hcz5_3); (try clear hcz5_4); (try clear hcz7_0); (try clear hcz7_1); (try clear hcz7_2); (try clear hcz7_3); (try clear hcz7_4); (try clear hcz9_0); (try clear hcz9_1); (try clear hcz9_2); (try clear hcz9_3); (try clear hcz9_4); (try clear hfz14_0); (try clear hfz14_1); (try clear hfz14_2); (try clear hfz14_3); (try clear hfz14_4); (try clear hfz5_0); (try clear hfz5_1); (try clear hfz5_2); (try clear hfz5_3); (try clear hfz5_4); (try clear hfz7_0); (try clear hfz7_1); (try clear hfz7_2); (try clear hfz7_3); (try clear hfz7_4); (try clear hfz9_0); (try clear hfz9_1); (try clear hfz9_2); (try clear hfz9_3); (try clear hfz9_4); (try clear p2); (try clear p6); obtain ⟨x3_2, x31_2, rfl, HA, HK2, HO_3, BK119, HB⟩ := hrel
     cases gk with
     | zero => exact absurd HA.out (by simp [schema_table.l0])
     | succ k2 =>
      have H := HA.out; clear HA; simp only [schema_table.l0] at H
      by_cases c15 : x31_2 < (l0_1.length : Int)
      ·rw [if_pos c15] at H
       have c15b0 : decide (x31_2 < (l0_1.length : Int)) = true := decide_eq_true c15; clear c15
       by_cases c16 : 0 ≤ x31_2
       ·rw [if_pos c16] at H
        have c16b0 : decide (0 ≤ x31_2) = true := decide_eq_true c16; clear c16
        by_cases c17 : x31_2 < (l0_1.length : Int)
        ·rw [if_pos c17] at H
         have c17b0 : decide (x31_2 < (l0_1.length : Int)) = true := decide_eq_true c17; clear c17
         by_cases c18 : ((rd_T87 l0_1 x31_2).f1) < 1
         ·rw [if_pos c18] at H
          have c18b0 : decide (((rd_T87 l0_1 x31_2).f1) < 1) = true := decide_eq_true c18; clear c18; obtain rfl := Option.some.inj H; have p124 : 0 ≤ (x31_2 : Int) := of_decide_eq_true (by first | (with_reducible assumption) | assumption); have q124 : x31_2 < (l0_1.length : Int) := of_decide_eq_true (by first | (with_reducible assumption) | assumption); obtain ⟨ad124, e124, hx124_0, hx124_1, hx124_2, hx124_3⟩ := at_T87 HR0_1.out x31_2 p124 q124
          cases e124
          replace hx124_0 := (HB.out.cell (World.block_lt_of_cell? w _ hx124_0)).trans hx124_0; replace hx124_1 := (HB.out.cell (World.block_lt_of_cell? w _ hx124_1)).trans hx124_1; replace hx124_2 := (HB.out.cell (World.block_lt_of_cell? w _ hx124_2)).trans hx124_2; replace hx124_3 := (HB.out.cell (World.block_lt_of_cell? w _ hx124_3)).trans hx124_3; replace p124 := eq_true p124; have p124D := p124; try simp only [List.length_drop, List.length_take] at p124D
          replace q124 := eq_true q124; have q124D := q124; try simp only [List.length_drop, List.length_take] at q124D
          go_wp2_with (first | ((with_reducible refine gate_dst (N := 5) rfl ?_); (try (refine gate_guard (by rfl) ?_; dsimp only)); refine box_event ?hg (N := 5) ?hd (cs := #[.string (⟨#[]⟩ : ByteArray), .int .u8 0, .int .i64 0, .int .i64 0]) (t := 87) ?hr ?_; (case hd => rfl); (case hg => rfl); (case hr => first | (go_simp; done) | (go_simp; rfl)); intro gb125 hg w19 hbox hb; have n0_ := Aside0.mk (Kd.R_below HO_3.out hb); have n1_ := Aside0.mk (blk_below (g := gb119) (o := .cells #[.string a0_0, .slice (some ad124) l0_1.length c0_1, .int .u32 a0_2, .int .i64 a0_3, .int .i64 a0_4] 84 (0, 0)) BK119.out hb); have n2_ := Aside0.mk (below_step HB.out hb); have n3_ := Aside0.mk (hbox); have n4_ := Aside0.mk ((by rw [hg]; exact (below_size HB.out) : w.heap.size ≤ gb125)); have n5_ := Aside0.mk ((by rw [hg]; exact (below_size HB.out) : w.heap.size ≤ gb125)); have n6_ := Aside0.mk ((by rw [hg]; exact Nat.ne_of_lt (blk_lt (g := gb119) (o := .cells #[.string a0_0, .slice (some ad124) l0_1.length c0_1, .int .u32 a0_2, .int .i64 a0_3, .int .i64 a0_4] 84 (0, 0)) BK119.out) : gb119 ≠ gb125)); have n7_ := Aside0.mk ((by rw [hg]; exact Nat.ne_of_gt (blk_lt (g := gb119) (o := .cells #[.string a0_0, .slice (some ad124) l0_1.length c0_1, .int .u32 a0_2, .int .i64 a0_3, .int .i64 a0_4] 84 (0, 0)) BK119.out) : gb125 ≠ gb119)); clear HO_3; clear BK119; clear HB; have HO_3 := n0_; have BK119 := n1_; have HB := n2_; have BK125 := n3_; have GW125 := n4_; have GE125 := n5_; have NB119_125 := n6_; have NB125_119 := n7_; clear n0_ n1_ n2_ n3_ n4_ n5_ n6_ n7_; clear hb hbox hg; have hnb20 := NB125_119.out; have hnc20 := NB119_125.out; have hcz21_0 := (blk_cell BK125.out 0).trans rfl; have hcz21_1 := (blk_cell BK125.out 1).trans rfl; have hcz21_2 := (blk_cell BK125.out 2).trans rfl; have hcz21_3 := (blk_cell BK125.out 3).trans rfl; have hfz21_0 := blk_frozen BK125.out 0; have hfz21_1 := blk_frozen BK125.out 1; have hfz21_2 := blk_frozen BK125.out 2; have hfz21_3 := blk_frozen BK125.out 3))
          go_ret
          exact ⟨by first | rfl | (simp [errW_none, errW_some] <;> rfl) | (simp [*, errW_none, errW_some] <;> rfl), by repeat (first | (with_reducible first | exact HB.out | apply below_alloc | apply pw_below_drewN | apply below_drew1 | refine below_set ?_ GE119.out | refine below_set ?_ GE125.out) | exact HB.out)⟩
         ·rw [if_neg c18] at H
          have c18b0 : decide (((rd_T87 l0_1 x31_2).f1) < 1) = false := decide_eq_false c18; clear c18
          by_cases c22 : ((rd_T87 l0_1 x31_2).f1) > 3
          ·rw [if_pos c22] at H
           have c22b0 : decide (3 < ((rd_T87 l0_1 x31_2).f1)) = true := decide_eq_true c22; clear c22; obtain rfl := Option.some.inj H; have p124 : 0 ≤ (x31_2 : Int) := of_decide_eq_true (by first | (with_reducible assumption) | assumption); have q124 : x31_2 < (l0_1.length : Int) := of_decide_eq_true (by first | (with_reducible assumption) | assumption); obtain ⟨ad124, e124, hx124_0, hx124_1, hx124_2, hx124_3⟩ := at_T87 HR0_1.out x31_2 p124 q124
           cases e124
           replace hx124_0 := (HB.out.cell (World.block_lt_of_cell? w _ hx124_0)).trans hx124_0; replace hx124_1 := (HB.out.cell (World.block_lt_of_cell? w _ hx124_1)).trans hx124_1; replace hx124_2 := (HB.out.cell (World.block_lt_of_cell? w _ hx124_2)).trans hx124_2; replace hx124_3 := (HB.out.cell (World.block_lt_of_cell? w _ hx124_3)).trans hx124_3; replace p124 := eq_true p124; have p124D := p124; try simp only [List.length_drop, List.length_take] at p124D
           replace q124 := eq_true q124; have q124D := q124; try simp only [List.length_drop, List.length_take] at q124D
           go_wp2_with (first | ((with_reducible refine gate_dst (N := 5) rfl ?_); (try (refine gate_guard (by rfl) ?_; dsimp only)); refine box_event ?hg (N := 5) ?hd (cs := #[.string (⟨#[]⟩ : ByteArray), .int .u8 0, .int .i64 0, .int .i64 0]) (t := 87) ?hr ?_; (case hd => rfl); (case hg => rfl); (case hr => first | (go_simp; done) | (go_simp; rfl)); intro gb125 hg w23 hbox hb; have n0_ := Aside0.mk (Kd.R_below HO_3.out hb); have n1_ := Aside0.mk (blk_below (g := gb119) (o := .cells #[.string a0_0, .slice (some ad124) l0_1.length c0_1, .int .u32 a0_2, .int .i64 a0_3, .int .i64 a0_4] 84 (0, 0)) BK119.out hb); have n2_ := Aside0.mk (below_step HB.out hb); have n3_ := Aside0.mk (hbox); have n4_ := Aside0.mk ((by rw [hg]; exact (below_size HB.out) : w.heap.size ≤ gb125)); have n5_ := Aside0.mk ((by rw [hg]; exact (below_size HB.out) : w.heap.size ≤ gb125)); have n6_ := Aside0.mk ((by rw [hg]; exact Nat.ne_of_lt (blk_lt (g := gb119) (o := .cells #[.string a0_0, .slice (some ad124) l0_1.length c0_1, .int .u32 a0_2, .int .i64 a0_3, .int .i64 a0_4] 84 (0, 0)) BK119.out) : gb119 ≠ gb125)); have n7_ := Aside0.mk ((by rw [hg]; exact Nat.ne_of_gt (blk_lt (g := gb119) (o := .cells #[.string a0_0, .slice (some ad124) l0_1.length c0_1, .int .u32 a0_2, .int .i64 a0_3, .int .i64 a0_4] 84 (0, 0)) BK119.out) : gb125 ≠ gb119)); clear HO_3; clear BK119; clear HB; have HO_3 := n0_; have BK119 := n1_; have HB := n2_; have BK125 := n3_; have GW125 := n4_; have GE125 := n5_; have NB119_125 := n6_; have NB125_119 := n7_; clear n0_ n1_ n2_ n3_ n4_ n5_ n6_ n7_; clear hb hbox hg; have hnb24 := NB125_119.out; have hnc24 := NB119_125.out; have hcz25_0 := (blk_cell BK125.out 0).trans rfl; have hcz25_1 := (blk_cell BK125.out 1).trans rfl; have hcz25_2 := (blk_cell BK125.out 2).trans rfl; have hcz25_3 := (blk_cell BK125.out 3).trans rfl; have hfz25_0 := blk_frozen BK125.out 0; have hfz25_1 := blk_frozen BK125.out 1; have hfz25_2 := blk_frozen BK125.out 2; have hfz25_3 := blk_frozen BK125.out 3))
           go_ret
           exact ⟨by first | rfl | (simp [errW_none, errW_some] <;> rfl) | (simp [*, errW_none, errW_some] <;> rfl), by repeat (first | (with_reducible first | exact HB.out | apply below_alloc | apply pw_below_drewN | apply below_drew1 | refine below_set ?_ GE119.out | refine below_set ?_ GE125.out) | exact HB.out)⟩
          ·rw [if_neg c22] at H
           have c22b0 : decide (3 < ((rd_T87 l0_1 x31_2).f1)) = false := decide_eq_false c22; clear c22; obtain ⟨y126, hy126⟩ : ∃ y_ : List Int, y_ = (([(rd_T87 l0_1 x31_2).f2, (rd_T87 l0_1 x31_2).f3] : List Int)) := ⟨_, rfl⟩; replace H : ((schema_right.f k2 y126).bind fun t129 => (if t129 = true then (if x3_2.length < 8796093022208 then (schema_table.l0 k2 (x3_2 ++ [(rd_T87 l0_1 x31_2).f0]) l0_1 (l0_1.length : Int) (wrap64 (x31_2 + 1))) else (none)) else (some false))) = some r := by first | (rw [hy126]; with_reducible exact H) | (have H2_ := (Option.bind_some _ _).symm.trans H; rw [hy126]; with_reducible exact H2_) | (have H2_ := (Option.bind_some _ _).symm.trans H; with_reducible exact H2_) | with_reducible exact H | (rw [hy126]; exact H) | exact H
           have Ny126 := Aside0.mk hy126; clear hy126; replace H := Option.bind_eq_some_iff.mp H; obtain ⟨t129, A260, H⟩ := H; replace H : (if t129 = true then (if x3_2.length < 8796093022208 then (schema_table.l0 k2 (x3_2 ++ [(rd_T87 l0_1 x31_2).f0]) l0_1 (l0_1.length : Int) (wrap64 (x31_2 + 1))) else (none)) else (some false)) = some r := H; have A26 := Aside0.mk A260; clear A260
           by_cases c27 : t129 = true
           ·subst c27
            have H1 : (if x3_2.length < 8796093022208 then (schema_table.l0 k2 (x3_2 ++ [(rd_T87 l0_1 x31_2).f0]) l0_1 (l0_1.length : Int) (wrap64 (x31_2 + 1))) else (none)) = some r := by rw [if_pos rfl] at H; exact H
            clear H; have H := H1; clear H1
            by_cases c28 : x3_2.length < 8796093022208
            ·rw [if_pos c28] at H
             have LMc28 := Aside0.mk c28; clear c28; obtain ⟨y130, hy130⟩ : ∃ y_ : List ByteArray, y_ = (x3_2 ++ [(rd_T87 l0_1 x31_2).f0]) := ⟨_, rfl⟩; replace H : (schema_table.l0 k2 y130 l0_1 (l0_1.length : Int) (wrap64 (x31_2 + 1))) = some r := by first | (rw [hy130]; with_reducible exact H) | (have H2_ := (Option.bind_some _ _).symm.trans H; rw [hy130]; with_reducible exact H2_) | (have H2_ := (Option.bind_some _ _).symm.trans H; with_reducible exact H2_) | with_reducible exact H | (rw [hy130]; exact H) | exact H
             have Ny130 := Aside0.mk hy130; clear hy130; have H' := Aside0.mk H; clear H; have p124 : 0 ≤ (x31_2 : Int) := of_decide_eq_true (by first | (with_reducible assumption) | assumption); have q124 : x31_2 < (l0_1.length : Int) := of_decide_eq_true (by first | (with_reducible assumption) | assumption); obtain ⟨ad124, e124, hx124_0, hx124_1, hx124_2, hx124_3⟩ := at_T87 HR0_1.out x31_2 p124 q124
             cases e124
             replace hx124_0 := (HB.out.cell (World.block_lt_of_cell? w _ hx124_0)).trans hx124_0; replace hx124_1 := (HB.out.cell (World.block_lt_of_cell? w _ hx124_1)).trans hx124_1; replace hx124_2 := (HB.out.cell (World.block_lt_of_cell? w _ hx124_2)).trans hx124_2; replace hx124_3 := (HB.out.cell (World.block_lt_of_cell? w _ hx124_3)).trans hx124_3; replace p124 := eq_true p124; have p124D := p124; try simp only [List.length_drop, List.length_take] at p124D
             replace q124 := eq_true q124; have q124D := q124; try simp only [List.length_drop, List.length_take] at q124D
             go_wp2_with (first | ((with_reducible refine gate_dst (N := 5) rfl ?_); (try (refine gate_guard (by rfl) ?_; dsimp only)); refine box_event ?hg (N := 5) ?hd (cs := #[.string (⟨#[]⟩ : ByteArray), .int .u8 0, .int .i64 0, .int .i64 0]) (t := 87) ?hr ?_; (case hd => rfl); (case hg => rfl); (case hr => first | (go_simp; done) | (go_simp; rfl)); intro gb125 hg w29 hbox hb; have n0_ := Aside0.mk (Kd.R_below (by (with_reducible repeat (first | apply Kd.R_alloc | apply Kd.R_drewN | apply Kd.R_drew)); exact HO_3.out) hb); have n1_ := Aside0.mk (blk_below (g := gb119) (o := .cells #[.string a0_0, .slice (some ad124) l0_1.length c0_1, .int .u32 a0_2, .int .i64 a0_3, .int .i64 a0_4] 84 (0, 0)) (by (with_reducible repeat (first | refine blk_drewN ?_ _ | refine blk_drew ?_ | refine blk_alloc ?_ _)); exact BK119.out) hb); have n2_ := Aside0.mk (below_step (by repeat (first | (with_reducible first | exact HB.out | apply below_alloc | apply pw_below_drewN | apply below_drew1 | refine below_set ?_ GE119.out) | exact HB.out)) hb); have n3_ := Aside0.mk (hbox); have n4_ := Aside0.mk ((by rw [hg]; exact (below_size (by repeat (first | (with_reducible first | exact HB.out | apply below_alloc | apply pw_below_drewN | apply below_drew1 | refine below_set ?_ GE119.out) | exact HB.out))) : w.heap.size ≤ gb125)); have n5_ := Aside0.mk ((by rw [hg]; exact (below_size (by repeat (first | (with_reducible first | exact HB.out | apply below_alloc | apply pw_below_drewN | apply below_drew1 | refine below_set ?_ GE119.out) | exact HB.out))) : w.heap.size ≤ gb125)); have n6_ := Aside0.mk ((by rw [hg]; exact Nat.ne_of_lt (blk_lt (g := gb119) (o := .cells #[.string a0_0, .slice (some ad124) l0_1.length c0_1, .int .u32 a0_2, .int .i64 a0_3, .int .i64 a0_4] 84 (0, 0)) (by (with_reducible repeat (first | refine blk_drewN ?_ _ | refine blk_drew ?_ | refine blk_alloc ?_ _)); exact BK119.out)) : gb119 ≠ gb125)); have n7_ := Aside0.mk ((by rw [hg]; exact Nat.ne_of_gt (blk_lt (g := gb119) (o := .cells #[.string a0_0, .slice (some ad124) l0_1.length c0_1, .int .u32 a0_2, .int .i64 a0_3, .int .i64 a0_4] 84 (0, 0)) (by (with_reducible repeat (first | refine blk_drewN ?_ _ | refine blk_drew ?_ | refine blk_alloc ?_ _)); exact BK119.out)) : gb125 ≠ gb119)); clear HO_3; clear BK119; clear HB; have HO_3 := n0_; have BK119 := n1_; have HB := n2_; have BK125 := n3_; have GW125 := n4_; have GE125 := n5_; have NB119_125 := n6_; have NB125_119 := n7_; clear n0_ n1_ n2_ n3_ n4_ n5_ n6_ n7_; clear hb hbox hg; have hnb30 := NB125_119.out; have hnc30 := NB119_125.out; have hcz31_0 : w29.cell? ⟨gb125, 0, none⟩ = some (.string (⟨#[]⟩ : ByteArray)) := (blk_cell BK125.out 0).trans rfl; have hcz31_1 : w29.cell? ⟨gb125, 1, none⟩ = some (.int .u8 0) := (blk_cell BK125.out 1).trans rfl; have hcz31_2 : w29.cell? ⟨gb125, 2, none⟩ = some (.int .i64 0) := (blk_cell BK125.out 2).trans rfl; have hcz31_3 : w29.cell? ⟨gb125, 3, none⟩ = some (.int .i64 0) := (blk_cell BK125.out 3).trans rfl; have hfz31_0 := blk_frozen BK125.out 0; have hfz31_1 := blk_frozen BK125.out 1; have hfz31_2 := blk_frozen BK125.out 2; have hfz31_3 := blk_frozen BK125.out 3) | ((with_reducible refine gate_dst (N := 48) rfl ?_); (try (refine gate_guard (by rfl) ?_; dsimp only)); refine Kd.R_lit (Kd.int .i64) _ 3 ?hg (N := 48) ?hd (xs := ([(rd_T87 l0_1 x31_2).f2, (rd_T87 l0_1 x31_2).f3] : List Int)) (inner := [.int .i64 ((rd_T87 l0_1 x31_2).f2), .int .i64 ((rd_T87 l0_1 x31_2).f3)]) (ok := fun _ => True) (okp := fun _ => True) ?hr ?hp (fun _ hk => hk) trivial (Below.refl _ _) (Nat.le_refl _) (by simp) ?_; (case hd => rfl); (case hg => rfl); (case hr => first | (go_simp; done) | (go_simp; rfl)); (case hp => exact (Reps.one (show Kd.M (Kd.int .i64) _ _ _ ((rd_T87 l0_1 x31_2).f2) [.int .i64 ((rd_T87 l0_1 x31_2).f2)] from rfl) (Reps.one (show Kd.M (Kd.int .i64) _ _ _ ((rd_T87 l0_1 x31_2).f3) [.int .i64 ((rd_T87 l0_1 x31_2).f3)] from rfl) (Reps.none _ _)))); intro v127 w32 ho33 hb hg_ hnew_; clear hg_ hnew_; (first | rw [← Ny126.out] at ho33 | (simp only [Int.reduceToNat] at ho33; rw [← Ny126.out] at ho33)); have n0_ := Aside0.mk (Kd.R_below (by (with_reducible repeat (first | apply Kd.R_alloc | apply Kd.R_drewN | apply Kd.R_drew)); exact (Kd.R_mono (Kd.R_far (p := ⟨gb125, 3, none⟩) (Kd.R_far (p := ⟨gb125, 2, none⟩) (Kd.R_far (p := ⟨gb125, 1, none⟩) (Kd.R_far (p := ⟨gb125, 0, none⟩) (Kd.R_types HO_3.out BK125.out (by decide)) (fun _ hk => hk.2) (.string ((rd_T87 l0_1 x31_2).f0))) (fun _ hk => hk.2) (.int .u8 ((rd_T87 l0_1 x31_2).f1))) (fun _ hk => hk.2) (.int .i64 ((rd_T87 l0_1 x31_2).f2))) (fun _ hk => hk.2) (.int .i64 ((rd_T87 l0_1 x31_2).f3))) (fun _ h_ => h_.1))) hb); have n1_ := Aside0.mk (Kd.R_lower ho33 (below_size (by repeat (first | (with_reducible first | exact HB.out | apply below_alloc | apply pw_below_drewN | apply below_drew1 | refine below_set ?_ GE119.out | refine below_set ?_ GE125.out) | exact HB.out)))); have n2_ := Aside0.mk (blk_below (g := gb119) (o := .cells #[.string a0_0, .slice (some ad124) l0_1.length c0_1, .int .u32 a0_2, .int .i64 a0_3, .int .i64 a0_4] 84 (0, 0)) (by (with_reducible repeat (first | refine blk_drewN ?_ _ | refine blk_drew ?_ | refine blk_alloc ?_ _)); refine blk_far ?_ NB119_125.out _; (with_reducible repeat (first | refine blk_drewN ?_ _ | refine blk_drew ?_ | refine blk_alloc ?_ _)); refine blk_far ?_ NB119_125.out _; (with_reducible repeat (first | refine blk_drewN ?_ _ | refine blk_drew ?_ | refine blk_alloc ?_ _)); refine blk_far ?_ NB119_125.out _; (with_reducible repeat (first | refine blk_drewN ?_ _ | refine blk_drew ?_ | refine blk_alloc ?_ _)); refine blk_far ?_ NB119_125.out _; (with_reducible repeat (first | refine blk_drewN ?_ _ | refine blk_drew ?_ | refine blk_alloc ?_ _)); exact BK119.out) hb); have n3_ := Aside0.mk (blk_below (g := gb125) (o := .cells #[.string ((rd_T87 l0_1 x31_2).f0), .int .u8 ((rd_T87 l0_1 x31_2).f1), .int .i64 ((rd_T87 l0_1 x31_2).f2), .int .i64 ((rd_T87 l0_1 x31_2).f3)] 87 (0, 0)) (by (with_reducible repeat (first | refine blk_drewN ?_ _ | refine blk_drew ?_ | refine blk_alloc ?_ _)); refine blk_put (cs := #[.string ((rd_T87 l0_1 x31_2).f0), .int .u8 ((rd_T87 l0_1 x31_2).f1), .int .i64 ((rd_T87 l0_1 x31_2).f2), .int .i64 0]) ?_ 3 _ rfl; (with_reducible repeat (first | refine blk_drewN ?_ _ | refine blk_drew ?_ | refine blk_alloc ?_ _)); refine blk_put (cs := #[.string ((rd_T87 l0_1 x31_2).f0), .int .u8 ((rd_T87 l0_1 x31_2).f1), .int .i64 0, .int .i64 0]) ?_ 2 _ rfl; (with_reducible repeat (first | refine blk_drewN ?_ _ | refine blk_drew ?_ | refine blk_alloc ?_ _)); refine blk_put (cs := #[.string ((rd_T87 l0_1 x31_2).f0), .int .u8 0, .int .i64 0, .int .i64 0]) ?_ 1 _ rfl; (with_reducible repeat (first | refine blk_drewN ?_ _ | refine blk_drew ?_ | refine blk_alloc ?_ _)); refine blk_put (cs := #[.string (⟨#[]⟩ : ByteArray), .int .u8 0, .int .i64 0, .int .i64 0]) ?_ 0 _ rfl; (with_reducible repeat (first | refine blk_drewN ?_ _ | refine blk_drew ?_ | refine blk_alloc ?_ _)); exact BK125.out) hb); have n4_ := Aside0.mk (below_step (by repeat (first | (with_reducible first | exact HB.out | apply below_alloc | apply pw_below_drewN | apply below_drew1 | refine below_set ?_ GE119.out | refine below_set ?_ GE125.out) | exact HB.out)) hb); clear HO_3; clear BK119; clear BK125; clear HB; have HO_3 := n0_; have HO128 := n1_; have BK119 := n2_; have BK125 := n3_; have HB := n4_; clear n0_ n1_ n2_ n3_ n4_; clear hb ho33; obtain ⟨Ao34, co34, eo34⟩ := Kd.R_slice HO128.out; subst eo34) | (go_at_call 97; (with_reducible refine (schema_right.calls k2 _ _ y126 true _ ?side1 ?side2 A26.out).mono ?_); (case side1 => repeat (first | exact (Kd.R_reads' HO128.out).2.2 | (with_reducible refine Kd.C_alloc ?_ _) | (with_reducible refine Kd.C_drewN ?_ _) | (with_reducible refine Kd.C_drew ?_))); (case side2 => exact (Kd.R_reads' HO128.out).2.1); rintro e w' ⟨rfl, ⟨nd, rfl⟩⟩; have hcz35_0 : w32.cell? ⟨gb125, 0, none⟩ = some (.string ((rd_T87 l0_1 x31_2).f0)) := (blk_cell BK125.out 0).trans rfl; have hcz35_1 : w32.cell? ⟨gb125, 1, none⟩ = some (.int .u8 ((rd_T87 l0_1 x31_2).f1)) := (blk_cell BK125.out 1).trans rfl; have hcz35_2 : w32.cell? ⟨gb125, 2, none⟩ = some (.int .i64 ((rd_T87 l0_1 x31_2).f2)) := (blk_cell BK125.out 2).trans rfl; have hcz35_3 : w32.cell? ⟨gb125, 3, none⟩ = some (.int .i64 ((rd_T87 l0_1 x31_2).f3)) := (blk_cell BK125.out 3).trans rfl; have hfz35_0 := blk_frozen BK125.out 0; have hfz35_1 := blk_frozen BK125.out 1; have hfz35_2 := blk_frozen BK125.out 2; have hfz35_3 := blk_frozen BK125.out 3) | ((with_reducible refine gate_builtin (b := .append) (xs := #[.tmp 52, .tmp 55]) rfl ?_); (try (refine gate_guard (by rfl) ?_; dsimp only)); at_builtin; refine Kd.R_append Kd.string (w0 := w) w.heap.size rfl (.tmp 52) (.tmp 55) 29 9 (.string ⟨#[]⟩) 16 rfl Try.underlying29 info9 rfl (by decide) (by omega) u3 x3_2 ((rd_T87 l0_1 x31_2).f0) [.string ((rd_T87 l0_1 x31_2).f0)] (fun _ => True) (fun _ => False) rfl rfl ?aP (fun _ hk => hk.elim) ?aF ?aO ?aB ?aS ?aL ?_; (case aP => exact rfl); (case aB => exact (by repeat (first | (with_reducible first | exact HB.out | apply below_alloc | apply pw_below_drewN | apply below_drew1 | refine below_set ?_ GE119.out | refine below_set ?_ GE125.out) | exact HB.out))); (case aF => exact (fun _ _ => trivial)); (case aO => exact (by (with_reducible repeat (first | apply Kd.R_alloc | apply Kd.R_drewN | apply Kd.R_drew)); exact HO_3.out)); (case aS => exact (below_size (by repeat (first | (with_reducible first | exact HB.out | apply below_alloc | apply pw_below_drewN | apply below_drew1 | refine below_set ?_ GE119.out | refine below_set ?_ GE125.out) | exact HB.out)))); (case aL => have := LMc28.out; omega); intro v131 w36 ho hb hg hat; rw [← Ny130.out] at ho; have n0_ := Aside0.mk (blk_grown (g := gb119) (o := .cells #[.string a0_0, .slice (some ad124) l0_1.length c0_1, .int .u32 a0_2, .int .i64 a0_3, .int .i64 a0_4] 84 (0, 0)) (by (with_reducible repeat (first | refine blk_drewN ?_ _ | refine blk_drew ?_ | refine blk_alloc ?_ _)); exact BK119.out) hg (Kd.R_ne HO_3.out BK119.out (by decide))); have n1_ := Aside0.mk (blk_grown (g := gb125) (o := .cells #[.string ((rd_T87 l0_1 x31_2).f0), .int .u8 ((rd_T87 l0_1 x31_2).f1), .int .i64 ((rd_T87 l0_1 x31_2).f2), .int .i64 ((rd_T87 l0_1 x31_2).f3)] 87 (0, 0)) (by (with_reducible repeat (first | refine blk_drewN ?_ _ | refine blk_drew ?_ | refine blk_alloc ?_ _)); exact BK125.out) hg (Kd.R_ne HO_3.out BK125.out (by decide))); have n2_ := Aside0.mk (Kd.R_over' (by (with_reducible repeat (first | apply Kd.R_alloc | apply Kd.R_drewN | apply Kd.R_drew)); exact HO128.out) (Kd.R_typed (by (with_reducible repeat (first | apply Kd.R_alloc | apply Kd.R_drewN | apply Kd.R_drew)); exact HO_3.out)) (by decide) hg); have n3_ := Aside0.mk (hb); have n4_ := Aside0.mk (ho); clear BK119; clear BK125; clear HO128; clear HB; clear HO_3; have BK119 := n0_; have BK125 := n1_; have HO128 := n2_; have HB := n3_; have HO132 := n4_; clear n0_ n1_ n2_ n3_ n4_; clear ho hb hg hat))
             go_roundg k2
             case measure => have := HJ1.out; have := HK2.out; omega
             case rel => exact ⟨(y130), (wrap64 (x31_2 + 1)), (by first | rfl | (simp; done) | (simp [*]; done)), H', ⟨by have := HJ1.out; have := HK2.out; omega⟩, ⟨by (with_reducible repeat (first | apply Kd.R_alloc | apply Kd.R_drewN | apply Kd.R_drew)); exact HO132.out⟩, ⟨by (with_reducible repeat (first | refine blk_drewN ?_ _ | refine blk_drew ?_ | refine blk_alloc ?_ _)); exact BK119.out⟩, ⟨by repeat (first | (with_reducible first | exact HB.out | apply below_alloc | apply pw_below_drewN | apply below_drew1 | refine below_set ?_ GE119.out | refine below_set ?_ GE125.out) | exact HB.out)⟩⟩
            ·rw [if_neg c28] at H
             exact absurd H (by simp)
           ·replace c27 := Bool.eq_false_iff.mpr c27
            subst c27; have H1 : (some false) = some r := by rw [if_neg (show ¬ (false = true) by decide)] at H; exact H
            clear H; have H := H1; clear H1; obtain rfl := Option.some.inj H; have p124 : 0 ≤ (x31_2 : Int) := of_decide_eq_true (by first | (with_reducible assumption) | assumption); have q124 : x31_2 < (l0_1.length : Int) := of_decide_eq_true (by first | (with_reducible assumption) | assumption); obtain ⟨ad124, e124, hx124_0, hx124_1, hx124_2, hx124_3⟩ := at_T87 HR0_1.out x31_2 p124 q124
            cases e124
            replace hx124_0 := (HB.out.cell (World.block_lt_of_cell? w _ hx124_0)).trans hx124_0; replace hx124_1 := (HB.out.cell (World.block_lt_of_cell? w _ hx124_1)).trans hx124_1; replace hx124_2 := (HB.out.cell (World.block_lt_of_cell? w _ hx124_2)).trans hx124_2; replace hx124_3 := (HB.out.cell (World.block_lt_of_cell? w _ hx124_3)).trans hx124_3; replace p124 := eq_true p124; have p124D := p124; try simp only [List.length_drop, List.length_take] at p124D
            replace q124 := eq_true q124; have q124D := q124; try simp only [List.length_drop, List.length_take] at q124D
            go_wp2_with (first | ((with_reducible refine gate_dst (N := 5) rfl ?_); (try (refine gate_guard (by rfl) ?_; dsimp only)); refine box_event ?hg (N := 5) ?hd (cs := #[.string (⟨#[]⟩ : ByteArray), .int .u8 0, .int .i64 0, .int .i64 0]) (t := 87) ?hr ?_; (case hd => rfl); (case hg => rfl); (case hr => first | (go_simp; done) | (go_simp; rfl)); intro gb125 hg w37 hbox hb; have n0_ := Aside0.mk (Kd.R_below (by (with_reducible repeat (first | apply Kd.R_alloc | apply Kd.R_drewN | apply Kd.R_drew)); exact HO_3.out) hb); have n1_ := Aside0.mk (blk_below (g := gb119) (o := .cells #[.string a0_0, .slice (some ad124) l0_1.length c0_1, .int .u32 a0_2, .int .i64 a0_3, .int .i64 a0_4] 84 (0, 0)) (by (with_reducible repeat (first | refine blk_drewN ?_ _ | refine blk_drew ?_ | refine blk_alloc ?_ _)); exact BK119.out) hb); have n2_ := Aside0.mk (below_step (by repeat (first | (with_reducible first | exact HB.out | apply below_alloc | apply pw_below_drewN | apply below_drew1 | refine below_set ?_ GE119.out) | exact HB.out)) hb); have n3_ := Aside0.mk (hbox); have n4_ := Aside0.mk ((by rw [hg]; exact (below_size (by repeat (first | (with_reducible first | exact HB.out | apply below_alloc | apply pw_below_drewN | apply below_drew1 | refine below_set ?_ GE119.out) | exact HB.out))) : w.heap.size ≤ gb125)); have n5_ := Aside0.mk ((by rw [hg]; exact (below_size (by repeat (first | (with_reducible first | exact HB.out | apply below_alloc | apply pw_below_drewN | apply below_drew1 | refine below_set ?_ GE119.out) | exact HB.out))) : w.heap.size ≤ gb125)); have n6_ := Aside0.mk ((by rw [hg]; exact Nat.ne_of_lt (blk_lt (g := gb119) (o := .cells #[.string a0_0, .slice (some ad124) l0_1.length c0_1, .int .u32 a0_2, .int .i64 a0_3, .int .i64 a0_4] 84 (0, 0)) (by (with_reducible repeat (first | refine blk_drewN ?_ _ | refine blk_drew ?_ | refine blk_alloc ?_ _)); exact BK119.out)) : gb119 ≠ gb125)); have n7_ := Aside0.mk ((by rw [hg]; exact Nat.ne_of_gt (blk_lt (g := gb119) (o := .cells #[.string a0_0, .slice (some ad124) l0_1.length c0_1, .int .u32 a0_2, .int .i64 a0_3, .int .i64 a0_4] 84 (0, 0)) (by (with_reducible repeat (first | refine blk_drewN ?_ _ | refine blk_drew ?_ | refine blk_alloc ?_ _)); exact BK119.out)) : gb125 ≠ gb119)); clear HO_3; clear BK119; clear HB; have HO_3 := n0_; have BK119 := n1_; have HB := n2_; have BK125 := n3_; have GW125 := n4_; have GE125 := n5_; have NB119_125 := n6_; have NB125_119 := n7_; clear n0_ n1_ n2_ n3_ n4_ n5_ n6_ n7_; clear hb hbox hg; have hnb38 := NB125_119.out; have hnc38 := NB119_125.out; have hcz39_0 : w37.cell? ⟨gb125, 0, none⟩ = some (.string (⟨#[]⟩ : ByteArray)) := (blk_cell BK125.out 0).trans rfl; have hcz39_1 : w37.cell? ⟨gb125, 1, none⟩ = some (.int .u8 0) := (blk_cell BK125.out 1).trans rfl; have hcz39_2 : w37.cell? ⟨gb125, 2, none⟩ = some (.int .i64 0) := (blk_cell BK125.out 2).trans rfl; have hcz39_3 : w37.cell? ⟨gb125, 3, none⟩ = some (.int .i64 0) := (blk_cell BK125.out 3).trans rfl; have hfz39_0 := blk_frozen BK125.out 0; have hfz39_1 := blk_frozen BK125.out 1; have hfz39_2 := blk_frozen BK125.out 2; have hfz39_3 := blk_frozen BK125.out 3) | ((with_reducible refine gate_dst (N := 48) rfl ?_); (try (refine gate_guard (by rfl) ?_; dsimp only)); refine Kd.R_lit (Kd.int .i64) _ 3 ?hg (N := 48) ?hd (xs := ([(rd_T87 l0_1 x31_2).f2, (rd_T87 l0_1 x31_2).f3] : List Int)) (inner := [.int .i64 ((rd_T87 l0_1 x31_2).f2), .int .i64 ((rd_T87 l0_1 x31_2).f3)]) (ok := fun _ => True) (okp := fun _ => True) ?hr ?hp (fun _ hk => hk) trivial (Below.refl _ _) (Nat.le_refl _) (by simp) ?_; (case hd => rfl); (case hg => rfl); (case hr => first | (go_simp; done) | (go_simp; rfl)); (case hp => exact (Reps.one (show Kd.M (Kd.int .i64) _ _ _ ((rd_T87 l0_1 x31_2).f2) [.int .i64 ((rd_T87 l0_1 x31_2).f2)] from rfl) (Reps.one (show Kd.M (Kd.int .i64) _ _ _ ((rd_T87 l0_1 x31_2).f3) [.int .i64 ((rd_T87 l0_1 x31_2).f3)] from rfl) (Reps.none _ _)))); intro v127 w40 ho41 hb hg_ hnew_; clear hg_ hnew_; (first | rw [← Ny126.out] at ho41 | (simp only [Int.reduceToNat] at ho41; rw [← Ny126.out] at ho41)); have n0_ := Aside0.mk (Kd.R_below (by (with_reducible repeat (first | apply Kd.R_alloc | apply Kd.R_drewN | apply Kd.R_drew)); exact (Kd.R_mono (Kd.R_far (p := ⟨gb125, 3, none⟩) (Kd.R_far (p := ⟨gb125, 2, none⟩) (Kd.R_far (p := ⟨gb125, 1, none⟩) (Kd.R_far (p := ⟨gb125, 0, none⟩) (Kd.R_types HO_3.out BK125.out (by decide)) (fun _ hk => hk.2) (.string ((rd_T87 l0_1 x31_2).f0))) (fun _ hk => hk.2) (.int .u8 ((rd_T87 l0_1 x31_2).f1))) (fun _ hk => hk.2) (.int .i64 ((rd_T87 l0_1 x31_2).f2))) (fun _ hk => hk.2) (.int .i64 ((rd_T87 l0_1 x31_2).f3))) (fun _ h_ => h_.1))) hb); have n1_ := Aside0.mk (Kd.R_lower ho41 (below_size (by repeat (first | (with_reducible first | exact HB.out | apply below_alloc | apply pw_below_drewN | apply below_drew1 | refine below_set ?_ GE119.out | refine below_set ?_ GE125.out) | exact HB.out)))); have n2_ := Aside0.mk (blk_below (g := gb119) (o := .cells #[.string a0_0, .slice (some ad124) l0_1.length c0_1, .int .u32 a0_2, .int .i64 a0_3, .int .i64 a0_4] 84 (0, 0)) (by (with_reducible repeat (first | refine blk_drewN ?_ _ | refine blk_drew ?_ | refine blk_alloc ?_ _)); refine blk_far ?_ NB119_125.out _; (with_reducible repeat (first | refine blk_drewN ?_ _ | refine blk_drew ?_ | refine blk_alloc ?_ _)); refine blk_far ?_ NB119_125.out _; (with_reducible repeat (first | refine blk_drewN ?_ _ | refine blk_drew ?_ | refine blk_alloc ?_ _)); refine blk_far ?_ NB119_125.out _; (with_reducible repeat (first | refine blk_drewN ?_ _ | refine blk_drew ?_ | refine blk_alloc ?_ _)); refine blk_far ?_ NB119_125.out _; (with_reducible repeat (first | refine blk_drewN ?_ _ | refine blk_drew ?_ | refine blk_alloc ?_ _)); exact BK119.out) hb); have n3_ := Aside0.mk (blk_below (g := gb125) (o := .cells #[.string ((rd_T87 l0_1 x31_2).f0), .int .u8 ((rd_T87 l0_1 x31_2).f1), .int .i64 ((rd_T87 l0_1 x31_2).f2), .int .i64 ((rd_T87 l0_1 x31_2).f3)] 87 (0, 0)) (by (with_reducible repeat (first | refine blk_drewN ?_ _ | refine blk_drew ?_ | refine blk_alloc ?_ _)); refine blk_put (cs := #[.string ((rd_T87 l0_1 x31_2).f0), .int .u8 ((rd_T87 l0_1 x31_2).f1), .int .i64 ((rd_T87 l0_1 x31_2).f2), .int .i64 0]) ?_ 3 _ rfl; (with_reducible repeat (first | refine blk_drewN ?_ _ | refine blk_drew ?_ | refine blk_alloc ?_ _)); refine blk_put (cs := #[.string ((rd_T87 l0_1 x31_2).f0), .int .u8 ((rd_T87 l0_1 x31_2).f1), .int .i64 0, .int .i64 0]) ?_ 2 _ rfl; (with_reducible repeat (first | refine blk_drewN ?_ _ | refine blk_drew ?_ | refine blk_alloc ?_ _)); refine blk_put (cs := #[.string ((rd_T87 l0_1 x31_2).f0), .int .u8 0, .int .i64 0, .int .i64 0]) ?_ 1 _ rfl; (with_reducible repeat (first | refine blk_drewN ?_ _ | refine blk_drew ?_ | refine blk_alloc ?_ _)); refine blk_put (cs := #[.string (⟨#[]⟩ : ByteArray), .int .u8 0, .int .i64 0, .int .i64 0]) ?_ 0 _ rfl; (with_reducible repeat (first | refine blk_drewN ?_ _ | refine blk_drew ?_ | refine blk_alloc ?_ _)); exact BK125.out) hb); have n4_ := Aside0.mk (below_step (by repeat (first | (with_reducible first | exact HB.out | apply below_alloc | apply pw_below_drewN | apply below_drew1 | refine below_set ?_ GE119.out | refine below_set ?_ GE125.out) | exact HB.out)) hb); clear HO_3; clear BK119; clear BK125; clear HB; have HO_3 := n0_; have HO128 := n1_; have BK119 := n2_; have BK125 := n3_; have HB := n4_; clear n0_ n1_ n2_ n3_ n4_; clear hb ho41; obtain ⟨Ao42, co42, eo42⟩ := Kd.R_slice HO128.out; subst eo42) | (go_at_call 97; (with_reducible refine (schema_right.calls k2 _ _ y126 false _ ?side1 ?side2 A26.out).mono ?_); (case side1 => repeat (first | exact (Kd.R_reads' HO128.out).2.2 | (with_reducible refine Kd.C_alloc ?_ _) | (with_reducible refine Kd.C_drewN ?_ _) | (with_reducible refine Kd.C_drew ?_))); (case side2 => exact (Kd.R_reads' HO128.out).2.1); rintro e w' ⟨rfl, ⟨nd, rfl⟩⟩))
            go_ret
            exact ⟨by first | rfl | (simp [errW_none, errW_some] <;> rfl) | (simp [*, errW_none, errW_some] <;> rfl), by repeat (first | (with_reducible first | exact HB.out | apply below_alloc | apply pw_below_drewN | apply below_drew1 | refine below_set ?_ GE119.out | refine below_set ?_ GE125.out) | exact HB.out)⟩
        ·rw [if_neg c17] at H
         exact absurd H (by simp)
       ·rw [if_neg c16] at H
        exact absurd H (by simp)
      ·rw [if_neg c15] at H
       have c15b0 : decide (x31_2 < (l0_1.length : Int)) = false := decide_eq_false c15; clear c15; replace H := Option.bind_eq_some_iff.mp H; obtain ⟨t133, A430, H⟩ := H; replace H : (some t133) = some r := H; have A43 := Aside0.mk A430; clear A430; obtain rfl := Option.some.inj H; obtain ⟨Ao44, co44, eo44⟩ := Kd.R_slice HO_3.out; subst eo44
       go_wp2_with (first | ((with_reducible refine gate_callee (f := 73) rfl ?_); refine goesL_ (some 59) rfl rfl Try.func73 (by kernel_rfl) rfl #[.slice Ao44 x3_2.length co44] rfl (by (try simp only [List.map_toArray, List.map_cons, List.map_nil]); first | done | rfl) ?_; (with_reducible refine (schema_names.calls k2 _ _ x3_2 t133 _ ?side1 ?side2 A43.out).mono ?_); (case side1 => repeat (first | exact (Kd.R_reads' HO_3.out).2.2 | (with_reducible refine Kd.C_alloc ?_ _) | (with_reducible refine Kd.C_drewN ?_ _) | (with_reducible refine Kd.C_drew ?_))); (case side2 => exact (Kd.R_reads' HO_3.out).2.1); rintro e w' ⟨rfl, ⟨nd, rfl⟩⟩; refine ⟨_, rfl, ?_⟩))
       go_ret
       exact ⟨by first | rfl | (simp [errW_none, errW_some] <;> rfl) | (simp [*, errW_none, errW_some] <;> rfl), by repeat (first | (with_reducible first | exact HB.out | apply below_alloc | apply pw_below_drewN | apply below_drew1 | refine below_set ?_ GE119.out) | exact HB.out)⟩

/-! ### slices_Index_int_int: function 121 -/
def slices_Index_int_int.l0 : Nat → List Int → Int → Int → Int → Option (Int)
 | 0, _, _, _, _ => none
 | k + 1, x0, x1, x7, x8 => if x8 < x7 then (if 0 ≤ x8 then (if x8 < (x0.length : Int) then (if x1 = (rd x0 x8) then (some x8) else (slices_Index_int_int.l0 k x0 x1 x7 (wrap64 (x8 + 1)))) else (none)) else (none)) else (some (-1))
def slices_Index_int_int.f (k : Nat) (l0 : List Int) (a1 : Int) : Option (Int) := slices_Index_int_int.l0 k l0 a1 (l0.length : Int) 0
theorem slices_Index_int_int.mono_l : ∀ k, (∀ y0 y1 y2 y3, LeO (slices_Index_int_int.l0 k y0 y1 y2 y3) (slices_Index_int_int.l0 (k + 1) y0 y1 y2 y3))
 | 0 => fun _ _ _ _ r h => by simp [slices_Index_int_int.l0] at h
 | k + 1 => by
  have ih0 := slices_Index_int_int.mono_l k
  ·intro y0 y1 y2 y3
   unfold slices_Index_int_int.l0
   repeat' first
   | (with_reducible exact ih0 _ _ _ _)
   | (with_reducible exact LeO.refl _)
   | (with_reducible exact LeO.none _)
   | (with_reducible refine LeO.ite ?_ ?_)
   | (with_reducible refine LeO.bind ?_ (fun _ => ?_))
   | exact ih0 _ _ _ _
   | exact LeO.none _
   | refine LeO.ite ?_ ?_
   | refine LeO.bind ?_ (fun _ => ?_)
theorem slices_Index_int_int.mono : ∀ a0 a1 k, LeO (slices_Index_int_int.f k a0 a1) (slices_Index_int_int.f (k + 1) a0 a1) := by
 intro a0 a1 k; have ih0 := slices_Index_int_int.mono_l k
 unfold slices_Index_int_int.f
 repeat' first
   | (with_reducible exact ih0 _ _ _ _)
   | (with_reducible exact LeO.refl _)
   | (with_reducible exact LeO.none _)
   | (with_reducible refine LeO.ite ?_ ?_)
   | (with_reducible refine LeO.bind ?_ (fun _ => ?_))
   | exact ih0 _ _ _ _
   | exact LeO.none _
   | refine LeO.ite ?_ ?_
   | refine LeO.bind ?_ (fun _ => ?_)
set_option maxHeartbeats 8000000 in
set_option maxRecDepth 100000 in
theorem slices_Index_int_int.calls (k : Nat) (A0 : Option Addr) (c0 : Nat) (l0 : List Int) (a1 : Int) (r : Int) (w : World) (hr0 : Kd.C (Kd.int .i64) w A0 l0.length l0) (hc0 : l0.length ≤ c0) (h : slices_Index_int_int.f k l0 a1 = some r) :
  Calls Try.prog 121 #[.slice A0 l0.length c0, .int .i64 a1] w fun e w' => e = .returned (.int .i64 r) ∧ Drawn0 w w' := by
 have HR0 := Aside0.mk hr0; have HC0 := Aside0.mk hc0; clear hr0 hc0; have H : (slices_Index_int_int.l0 k l0 a1 (l0.length : Int) 0) = some r := h; clear h; have H' := Aside0.mk H; clear H
 go_enter Try.func121, Try.ntmps121
 go_wp2
 go_loopg [8] k (fun kq v8 w' => ∃ (x8_1 : Int), v8 = .int .i64 x8_1 ∧ Aside0 (slices_Index_int_int.l0 kq l0 a1 (l0.length : Int) x8_1 = some r) ∧ Aside0 (kq ≤ k) ∧ Drawn0 w w')
 case atStart => exact ⟨(0), (by first | rfl | (simp; done) | (simp [*]; done)), H', ⟨Nat.le_refl _⟩, by repeat (first | exact Drawn0.refl _ | apply Drawn0.step)⟩
 case round =>
  clear H'; (try clear c1); (try clear p2); obtain ⟨x8_1, rfl, HA, HK1, ⟨m1, rfl⟩⟩ := hrel
  cases gk with
  | zero => exact absurd HA.out (by simp [slices_Index_int_int.l0])
  | succ k1 =>
   have H := HA.out; clear HA; simp only [slices_Index_int_int.l0] at H
   by_cases c3 : x8_1 < (l0.length : Int)
   ·rw [if_pos c3] at H
    have c3b0 : decide (x8_1 < (l0.length : Int)) = true := decide_eq_true c3; clear c3
    by_cases c4 : 0 ≤ x8_1
    ·rw [if_pos c4] at H
     have c4b0 : decide (0 ≤ x8_1) = true := decide_eq_true c4; clear c4
     by_cases c5 : x8_1 < (l0.length : Int)
     ·rw [if_pos c5] at H
      have c5b0 : decide (x8_1 < (l0.length : Int)) = true := decide_eq_true c5; clear c5
      by_cases c6 : a1 = (rd l0 x8_1)
      ·rw [if_pos c6] at H
       have c6b0 : (a1 == (rd l0 x8_1)) = true := beq_iff_eq.mpr c6; have c6b1 : (a1 != (rd l0 x8_1)) = false := bne_eq_false_iff_eq.mpr c6; clear c6; obtain rfl := Option.some.inj H; have p134 : 0 ≤ (x8_1 : Int) := of_decide_eq_true (by first | (with_reducible assumption) | assumption); have q134 : x8_1 < (l0.length : Int) := of_decide_eq_true (by first | (with_reducible assumption) | assumption); obtain ⟨ad134, e134, hx134_0⟩ := Kd.at_int HR0.out x8_1 p134 q134
       cases e134
       replace p134 := eq_true p134; have p134D := p134; try simp only [List.length_drop, List.length_take] at p134D
       replace q134 := eq_true q134; have q134D := q134; try simp only [List.length_drop, List.length_take] at q134D
       go_wp2
       go_ret
       exact ⟨by first | rfl | (simp; done) | (simp [*]; done), by repeat (first | exact Drawn0.refl _ | apply Drawn0.step)⟩
      ·rw [if_neg c6] at H
       have c6b0 : (a1 == (rd l0 x8_1)) = false := beq_eq_false_iff_ne.mpr c6; have c6b1 : (a1 != (rd l0 x8_1)) = true := bne_iff_ne.mpr c6; have H' := Aside0.mk H; clear H; have p134 : 0 ≤ (x8_1 : Int) := of_decide_eq_true (by first | (with_reducible assumption) | assumption); have q134 : x8_1 < (l0.length : Int) := of_decide_eq_true (by first | (with_reducible assumption) | assumption); obtain ⟨ad134, e134, hx134_0⟩ := Kd.at_int HR0.out x8_1 p134 q134
       cases e134
       replace p134 := eq_true p134; have p134D := p134; try simp only [List.length_drop, List.length_take] at p134D
       replace q134 := eq_true q134; have q134D := q134; try simp only [List.length_drop, List.length_take] at q134D
       go_wp2
       go_roundg k1
       case measure => have := HK1.out; omega
       case rel => exact ⟨(wrap64 (x8_1 + 1)), (by first | rfl | (simp; done) | (simp [*]; done)), H', ⟨by have := HK1.out; omega⟩, by repeat (first | exact Drawn0.refl _ | apply Drawn0.step)⟩
     ·rw [if_neg c5] at H
      exact absurd H (by simp)
    ·rw [if_neg c4] at H
     exact absurd H (by simp)
   ·rw [if_neg c3] at H
    have c3b0 : decide (x8_1 < (l0.length : Int)) = false := decide_eq_false c3; clear c3; obtain rfl := Option.some.inj H
    go_wp2
    go_ret
    exact ⟨by first | rfl | (simp; done) | (simp [*]; done), by repeat (first | exact Drawn0.refl _ | apply Drawn0.step)⟩

/-! ### slices_Contains_int_int: function 98 -/
def slices_Contains_int_int.f (k : Nat) (l0 : List Int) (a1 : Int) : Option (Bool) := (slices_Index_int_int.f k l0 a1).bind fun t135 => (some (decide (t135 ≥ 0)))
theorem slices_Contains_int_int.mono : ∀ a0 a1 k, LeO (slices_Contains_int_int.f k a0 a1) (slices_Contains_int_int.f (k + 1) a0 a1) := by
 intro a0 a1 k
 unfold slices_Contains_int_int.f
 repeat' first
   | (with_reducible exact slices_Index_int_int.mono _ _ _)
   | (with_reducible exact LeO.refl _)
   | (with_reducible exact LeO.none _)
   | (with_reducible refine LeO.ite ?_ ?_)
   | (with_reducible refine LeO.bind ?_ (fun _ => ?_))
   | exact slices_Index_int_int.mono _ _ _
   | exact LeO.none _
   | refine LeO.ite ?_ ?_
   | refine LeO.bind ?_ (fun _ => ?_)
set_option maxHeartbeats 8000000 in
set_option maxRecDepth 100000 in
theorem slices_Contains_int_int.calls (k : Nat) (A0 : Option Addr) (c0 : Nat) (l0 : List Int) (a1 : Int) (r : Bool) (w : World) (hr0 : Kd.C (Kd.int .i64) w A0 l0.length l0) (hc0 : l0.length ≤ c0) (h : slices_Contains_int_int.f k l0 a1 = some r) :
  Calls Try.prog 98 #[.slice A0 l0.length c0, .int .i64 a1] w fun e w' => e = .returned (.bool r) ∧ Drawn0 w w' := by
 have HR0 := Aside0.mk hr0; have HC0 := Aside0.mk hc0; clear hr0 hc0; have H : ((slices_Index_int_int.f k l0 a1).bind fun t135 => (some (decide (t135 ≥ 0)))) = some r := h; clear h; replace H := Option.bind_eq_some_iff.mp H; obtain ⟨t135, A30, H⟩ := H; replace H : (some (decide (t135 ≥ 0))) = some r := H; have A3 := Aside0.mk A30; clear A30; obtain rfl := Option.some.inj H
 go_enter Try.func98, Try.ntmps98
 go_wp2_with (first | ((with_reducible refine gate_callee (f := 121) rfl ?_); refine goesL_ (some 7) rfl rfl Try.func121 (by kernel_rfl) rfl #[.slice A0 l0.length c0, .int .i64 a1] rfl (by (try simp only [List.map_toArray, List.map_cons, List.map_nil]); first | done | rfl) ?_; (with_reducible refine (slices_Index_int_int.calls k _ _ l0 a1 t135 _ ?side1 ?side2 A3.out).mono ?_); (case side1 => repeat (first | exact HR0.out | (with_reducible refine Kd.C_alloc ?_ _) | (with_reducible refine Kd.C_drewN ?_ _) | (with_reducible refine Kd.C_drew ?_))); (case side2 => exact HC0.out); rintro e w' ⟨rfl, ⟨nd, rfl⟩⟩; refine ⟨_, rfl, ?_⟩))
 go_ret
 exact ⟨by first | rfl | (simp; done) | (simp [*]; done), by repeat (first | exact Drawn0.refl _ | apply Drawn0.step)⟩

end Go.Proofs.Ytpfegfkniilobaa.XSchema
